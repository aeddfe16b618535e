/- Part of a proof: RefG RedM. -/
import Derived.Test.YtaellcgglldjaaaGreatHierFindsQ06
import Derived.Test.YtaellcgglldjaaaGreatHierFindsQ04
import Derived.Test.YtaellcgglldjaaaGreatHierFindsQ01
import Derived.Test.YtaellcgglldjaaaGreatHierFindsQ07
import Derived.Test.YtaellcgglldjaaaGreatHierFindsQ10
import Derived.Test.YtaellcgglldjaaaGreatHierFindsQ14
import Derived.WideKeyPair
import Derived.DeepKeys4
set_option linter.all false
set_option linter.unusedVariables false
set_option linter.unusedSimpArgs false
namespace Go.Proofs.YtaellcgglldjaaaGreat
open Go.RowKit
theorem aBu (W H:Int) (a:Option Addr) (l:List Int) (c:Nat) (p:aB×aB) (w:World) (hm:bW W H=true) (hl:(l.length:Int)=W*H) (hr:Row16 w a l) (hu:cV l) (hi:sT W H p):
  Calls Tryz.prog 151 #[.agg #[.int .i64 W, .int .i64 H, .slice a l.length c], .agg #[.int .i64 p.1.1, .int .i64 p.1.2, .int .i64 p.2.1, .int .i64 p.2.2]] w fun e w'=>e= .returned (.bool (lY l W p))∧Ext w w':=by
 obtain⟨⟨ax,ay⟩,bx,bY⟩:=p
 obtain⟨h1,h2⟩:=hi
 simp only at h1 h2⊢
 have k1: ∀w',Ext w w'→Calls Tryz.prog 20 #[.agg #[.int .i64 W, .int .i64 H, .slice a l.length c], .agg #[.int .i64 ax, .int .i64 ay]] w' fun e w2=>e= .returned (.int .u64 (aL l W (ax,ay)))∧Ext w' w2:=fun w' hx=>
  fM W H a l c ax ay w' hm hl (hr.ext hx) hu h1.1 h1.2.1 h1.2.2.1 h1.2.2.2
 have k2: ∀w',Ext w w'→Calls Tryz.prog 20 #[.agg #[.int .i64 W, .int .i64 H, .slice a l.length c], .agg #[.int .i64 bx, .int .i64 bY]] w' fun e w2=>e= .returned (.int .u64 (aL l W (bx,bY)))∧Ext w' w2:=fun w' hx=>
  fM W H a l c bx bY w' hm hl (hr.ext hx) hu h2.1 h2.2.1 h2.2.2.1 h2.2.2.2
 have b1:=(bX hu W (ax,ay)).1
 have b2:=(bX hu W (bx,bY)).1
 unfold lY
 simp only
 generalize aL l W (ax,ay)=u at *
 generalize aL l W (bx,bY)=v at *
 obtain⟨n,hn⟩: ∃n,l.length=n:=⟨_,rfl⟩
 rw[hn]at k1 k2⊢
 have K1:=aA k1
 have K2:=aA k2
 clear k1 k2 hm hl hr hu h1 h2 hn
 by_cases hu0:u=0
 ·have q:(u !=0)=false:=by simpa using hu0
  clear b1
  have U0:=aA hu0
  clear hu0
  go_enter Tryz.func151,Tryz.ntmps151
  go_wp2_with fail
  refine(K1.out _ z_x).mono ?_
  rintro e w1 ⟨rfl,hb1⟩
  obtain⟨hc1,hf1⟩:=hb1.cells;have hz1:=hb1.size;(try simp only[zS]at hz1);have z1_0:w.heap.size<w1.heap.size:=(by omega);have z1_1:w.heap.size+1<w1.heap.size:=(by omega)
  go_wp2
  go_ret
  exact⟨by rw[U0.out];rfl,z_x⟩
 have q:(u !=0)=true:=by simpa using hu0
 have U0:=aA (show decide (0<u)=true by simp;omega)
 clear hu0
 go_enter Tryz.func151,Tryz.ntmps151
 go_wp2_with fail
 refine(K1.out _ z_x).mono ?_
 rintro e w1 ⟨rfl,hb1⟩
 obtain⟨hc1,hf1⟩:=hb1.cells;have hz1:=hb1.size;(try simp only[zS]at hz1);have z1_0:w.heap.size<w1.heap.size:=(by omega);have z1_1:w.heap.size+1<w1.heap.size:=(by omega)
 go_wp2_with fail
 refine(K2.out _ z_x).mono ?_
 rintro e w2 ⟨rfl,hb2⟩
 go_wp2
 go_ret
 have e9:(v !=0)=decide (0<v):=by rw[Bool.eq_iff_iff];simp;omega
 exact⟨by rw[U0.out,←e9];simp,z_x⟩
theorem vH:cH Tryz.prog 112 132 (.agg #[.int .i64 0, .int .i64 0, .int .i64 0, .int .i64 0]) 4 32:=⟨Tryz.underlying112,by kernel_rfl,rfl,by decide⟩
def lR (w:World) (L:List (aB×aB)) (e:Ending) (w':World):Prop:= ∃v,e= .returned v∧Ext w w'∧Own aT w' w.heap.size 132 v L
theorem aHb (op:Nat→Bool) (B:List (aB×aB)) (i:Nat) (p:aB×aB) (h:B[i]? =some p):eC B (gA op B.length (i+1))=eC B (gA op B.length i)++if iO op B.length i=true then[p] else[]:=by
 rw[aHj]
 split
 ·exact fC B _ i p h
 simp
theorem zY (op:Nat→Bool) (B:List (aB×aB)) (i:Nat):(eC B (gA op B.length i)).length≤i:=by
 unfold eC gA
 refine Nat.le_trans (List.length_filterMap_le _ _) (Nat.le_trans (List.length_filter_le _ _) ?_)
 simp
set_option maxRecDepth 100000 in
set_option maxHeartbeats 4000000 in
theorem uS (W H:Int) (ad:Option Addr) (l:List Int) (c g cc:Nat) (B:List (aB×aB)) (w:World) (hm:bW W H=true) (hl:(l.length:Int)=W*H) (hr:Row16 w ad l) (hu:cV l) (hB:B.length≤1000) (hb:g<w.heap.size) (hP:PairsAt w g 0 B) (hin: ∀(k:Nat) (p:aB×aB),B[k]? =some p→sT W H p):
  Calls Tryz.prog 93 #[.agg #[.int .i64 W, .int .i64 H, .slice ad l.length c], .slice (some ⟨g,0,none⟩) B.length cc] w (lR w (eC B (gA (opB l W B) B.length B.length))):=by
 have hop: ∀w',Ext w w'→ ∀(k:Nat) (p:aB×aB),B[k]? =some p→Calls Tryz.prog 151 #[.agg #[.int .i64 W, .int .i64 H, .slice ad l.length c], .agg #[.int .i64 p.1.1, .int .i64 p.1.2, .int .i64 p.2.1, .int .i64 p.2.2]] w' fun e w2=>e= .returned (.bool (opB l W B k))∧Ext w' w2:=by
  intro w' hx k p hp
  have e:opB l W B k=lY l W p:=by unfold opB;rw[hp]
  rw[e]
  exact aBu W H ad l c p w' hm hl (hr.ext hx) hu (hin k p hp)
 generalize opB l W B=op at *
 obtain⟨n,hn⟩: ∃n,l.length=n:=⟨_,rfl⟩
 rw[hn]at hop⊢
 have HOP:=aA hop
 have HP:=aA hP
 clear hop hP hl hr hu hin hn hm
 go_enter Tryz.func93,Tryz.ntmps93
 go_wp2
 obtain⟨w0,hw0⟩: ∃w0,w0=(w.alloc (.cells #[.int .i64 W, .int .i64 H, .slice ad n c] 26)).alloc (.cells #[] 132):=⟨_,rfl⟩
 have hx0:Ext w w0:=by rw[hw0];exact z_x
 have c0:w0.cell? ⟨w.heap.size,0,none⟩=some (.int .i64 W):=by rw[hw0];simp[go_sem]
 have c1:w0.cell? ⟨w.heap.size,1,none⟩=some (.int .i64 H):=by rw[hw0];simp[go_sem]
 have c2:w0.cell? ⟨w.heap.size,2,none⟩=some (.slice ad n c):=by rw[hw0];simp[go_sem]
 have z0:w.heap.size+1<w0.heap.size:=by rw[hw0];simp
 have o0:=aA (show Own aT w0 (w.heap.size+1) 132 (.slice (some ⟨w.heap.size+1,0,none⟩) 0 0) [] by rw[hw0];exact Own.lit0 _ _ _ _ _ (by simp) (Nat.le_refl _))
 rw[←hw0]
 have C:=aA (show _∧_∧_ from⟨c0,c1,c2⟩)
 clear hw0 c0 c1 c2
 go_loopw [5,6] (fun o i wr=> ∃k:Nat,k≤B.length∧i= .int .i64 k∧Own aT wr (w.heap.size+1) 132 o (eC B (gA op B.length k))∧Below (w.heap.size+1) w0 wr) (fun _ i _=>B.length-(intOf i).toNat)
 case atStart=>exact⟨0,Nat.zero_le _,rfl,o0.out,Below.refl _ _⟩
 obtain⟨i,hi,rfl,hown,hbel⟩:=hrel
 have HO:=aA hown
 clear hown
 have hz:=hbel.size
 have hxr:Ext w wr:=hx0.of_below hbel (by omega)
 obtain⟨c0,c1,c2⟩:=C.out
 have d0:=(hbel.cell (p:=⟨w.heap.size,0,none⟩) (by simp)).trans c0
 have d1:=(hbel.cell (p:=⟨w.heap.size,1,none⟩) (by simp)).trans c1
 have d2:=(hbel.cell (p:=⟨w.heap.size,2,none⟩) (by simp)).trans c2
 clear c0 c1 c2
 have zr:g<wr.heap.size:=by omega
 have zw:w.heap.size<wr.heap.size:=by omega
 by_cases hlt:i<B.length
 ·obtain⟨q,hq⟩: ∃q,B[i]? =some q:=⟨_,zG hlt⟩
  have eq:B[i]=q:=by rw[zG hlt]at hq;exact Option.some.inj hq
  obtain⟨q1,q2,q3,q4⟩:=(HP.out.ext hb hxr) i hlt
  rw[eq]at q1 q2 q3 q4
  simp only[Nat.zero_add]at q1 q2 q3 q4
  have Hq:=aA hq
  have HS:=aA (aHb op B i q hq)
  have hpl:=zY op B i
  clear hq eq
  cases ho:op i
  ·have HM:=aA (show iO op B.length i=false by simp[iO,ho])
   go_wp2
   go_region_held3 (fun W=>(∀b o,b<wr.heap.size→W.cell? ⟨b,o,none⟩=wr.cell? ⟨b,o,none⟩)∧Ext wr W) (first|with_reducible exact bG _|exact aI z_x)
    (first|(go_at_call 151;refine(HOP.out _ (hxr.trans z_x) i q Hq.out).mono ?_;rintro e w3 ⟨rfl,hb3⟩;rw[ho]))
   rename_i hS
   have hx3:Ext wr w3:=hS.2
   clear hS
   go_wp2
   go_roundw
   case rel=>exact⟨i+1,by omega,by go_num,by rw[HS.out,HM.out];simpa using HO.out.ext hx3,hbel.trans (Below.mono hx3 (by omega))⟩
   simp[intOf];omega
  have HO1:=aA ho
  clear ho
  go_wp2
  go_region_held3 (fun W=>(∀b o,b<wr.heap.size→W.cell? ⟨b,o,none⟩=wr.cell? ⟨b,o,none⟩)∧Ext wr W) (first|with_reducible exact bG _|exact aI z_x)
   (first|(go_at_call 151;refine(HOP.out _ (hxr.trans z_x) i q Hq.out).mono ?_;rintro e w3 ⟨rfl,hb3⟩;rw[HO1.out]))
  rename_i hS
  have hx3:Ext wr w3:=hS.2
  clear hS
  go_wp2
  obtain⟨A1,A2,A3⟩:iB op i≤i∧(∀j,j<iB op i→op (i-1-j)=true)∧(iB op i<i→op (i-1-iB op i)=false):=nH i (fun j=>op (i-1-j))
  have HMI:=aA (show iO op B.length i=decide (iB op i=(iB op i+iU op B.length i)/2) by unfold iO;rw[HO1.out,Bool.true_and])
  obtain⟨B1,B2,B3⟩:iU op B.length i≤B.length-i-1∧(∀j,j<iU op B.length i→op (i+1+j)=true)∧(iU op B.length i<B.length-i-1→op (i+1+iU op B.length i)=false):=nH (B.length-i-1) (fun j=>op (i+1+j))
  generalize iB op i=A at *
  generalize iU op B.length i=Bh at *
  have HA2:=aA A2
  have HA3:=aA A3
  have HB2:=aA B2
  have HB3:=aA B3
  have HO3:=aA (HO.out.ext hx3)
  have hbel3:Below (w.heap.size+1) w0 w3:=hbel.trans (Below.mono hx3 (by omega))
  have hxr3:Ext w w3:=hxr.trans hx3
  have hz3:=hx3.size
  have e0:=(hx3.cell (p:=⟨w.heap.size,0,none⟩) zw).trans d0
  have e1:=(hx3.cell (p:=⟨w.heap.size,1,none⟩) zw).trans d1
  have e2:=(hx3.cell (p:=⟨w.heap.size,2,none⟩) zw).trans d2
  have p1:=(hx3.cell (p:=⟨g,i*4,none⟩) zr).trans q1
  have p2:=(hx3.cell (p:=⟨g,i*4+1,none⟩) zr).trans q2
  have p3:=(hx3.cell (p:=⟨g,i*4+2,none⟩) zr).trans q3
  have p4:=(hx3.cell (p:=⟨g,i*4+3,none⟩) zr).trans q4
  have HE:=aA (show _∧_∧_ from⟨e0,e1,e2⟩)
  have HPP:=aA (show _∧_∧_∧_ from⟨p1,p2,p3,p4⟩)
  clear A2 A3 B2 B3 d0 d1 d2 q1 q2 q3 q4 hb3 HO hx3 hxr hbel e0 e1 e2 p1 p2 p3 p4
  have zr3:g<w3.heap.size:=by omega
  have zw3:w.heap.size<w3.heap.size:=by omega
  go_loopw [7,8] (fun ah k wl=> ∃a:Nat,a≤A∧ah= .int .i64 a∧k= .int .i64 ((i:Int)-1-(a:Int))∧Ext w3 wl) (fun ah _ _=>i+1-(intOf ah).toNat)
  case atStart=>exact⟨0,Nat.zero_le _,rfl,by first|rfl|(simp;done)|(congr 1;omega),Ext.refl _⟩
  obtain⟨a,ha,rfl,rfl,hxl⟩:=hrel
  have zl:=hxl.size
  have zgl:g<_:=Nat.lt_of_lt_of_le zr3 zl
  have zwl:w.heap.size<_:=Nat.lt_of_lt_of_le zw3 zl
  obtain⟨e0,e1,e2⟩:=HE.out
  have f0:=(hxl.cell (p:=⟨w.heap.size,0,none⟩) zw3).trans e0
  have f1:=(hxl.cell (p:=⟨w.heap.size,1,none⟩) zw3).trans e1
  have f2:=(hxl.cell (p:=⟨w.heap.size,2,none⟩) zw3).trans e2
  clear e0 e1 e2
  go_upto_region 8 with(fail)
  go_cut [36] from 27 to 40 (fun s wx=>s= .bool (decide (a<A))∧Ext wr wx)
  case first=>
   by_cases hai:a<i
   ·obtain⟨m,hm⟩: ∃m:Nat,m=i-1-a:=⟨_,rfl⟩
    have hml:m<B.length:=by omega
    have hmi:(i:Int)-1-(a:Int)=(m:Int):=by omega
    have hop:op m=decide (a<A):=by
     by_cases haA:a<A
     ·have:=HA2.out a haA;rw[←hm]at this;rw[this];simp[haA]
     have e:a=A:=by omega
     have:=HA3.out (by omega);rw[←e,←hm]at this;rw[this];simp[haA]
    obtain⟨q,hq⟩: ∃q,B[m]? =some q:=⟨_,zG hml⟩
    have eq:B[m]=q:=by rw[zG hml]at hq;exact Option.some.inj hq
    obtain⟨q1,q2,q3,q4⟩:=(HP.out.ext hb (hxr3.trans hxl)) m hml
    rw[eq]at q1 q2 q3 q4
    simp only[Nat.zero_add]at q1 q2 q3 q4
    have Hm:=aA hq
    have HOPM:=aA hop
    have hmz:(0:Int)≤(m:Int):=by omega
    clear hq eq hm hop
    have HMI:=aA hmi
    rw[hmi]
    clear hmi
    go_region_held3 (fun W=>(∀b o,b<wr.heap.size→W.cell? ⟨b,o,none⟩=wr.cell? ⟨b,o,none⟩)∧Ext wr W) (first|with_reducible exact bG _|exact aI z_x)
     (first|(go_at_call 151;refine(HOP.out _ ((hxr3.trans hxl).trans z_x) m q Hm.out).mono ?_;rintro e w5 ⟨rfl,hb5⟩;rw[HOPM.out]))
    rename_i hS
    have hS2:=aA hS.2
    clear hS
    rw[←HMI.out]
    go_wp2_with fail
    go_meet
    exact⟨rfl,hS2.out⟩
   have e:a=i:=by omega
   have hneg: ¬(0:Int)≤(i:Int)-1-(a:Int):=by omega
   have hfa:decide (a<A)=false:=by simp;omega
   have HFA:=aA hfa
   have g1:decide ((0:Int)≤(i:Int)-1-(a:Int))=false:=by simp;omega
   have g2:decide ((a:Int)≤(i:Int)-1)=false:=by simp;omega
   clear hfa e hneg
   go_quiet (fail)
   go_wp2_with fail
   go_meet
   exact⟨by rw[HFA.out],z_x⟩
  obtain⟨rfl,hxc⟩:=hcut
  clear f0 f1 f2
  by_cases haA:a<A
  ·go_wp2
   go_roundw
   case rel=>exact⟨a+1,by omega,by go_num,by first|rfl|(congr 1;omega),hxl.trans hxc⟩
   simp[intOf];omega
  obtain rfl:a=A:=by omega
  rw[show decide (a<a)=false by simp]
  have hxl':Ext w3 _:=hxl.trans hxc
  go_wp2
  have hxr4:=aA (hxr3.trans hxl')
  obtain⟨w4,hw4⟩: ∃w4,w4=wc:=⟨_,rfl⟩
  rw[←hw4]at hxl'⊢
  rw[←hw4]at hxr4
  have zl4:=hxl'.size
  obtain⟨e0,e1,e2⟩:=HE.out
  have f0:=(hxl'.cell (p:=⟨w.heap.size,0,none⟩) zw3).trans e0
  have f1:=(hxl'.cell (p:=⟨w.heap.size,1,none⟩) zw3).trans e1
  have f2:=(hxl'.cell (p:=⟨w.heap.size,2,none⟩) zw3).trans e2
  have HF:=aA (show _∧_∧_ from⟨f0,f1,f2⟩)
  have zg4:g<w4.heap.size:=by omega
  have zw4:w.heap.size<w4.heap.size:=by omega
  clear e0 e1 e2 f0 f1 f2 hw4 hxl hxc
  go_loopw [9,10] (fun bh k wl=> ∃b:Nat,b≤Bh∧bh= .int .i64 b∧k= .int .i64 ((i:Int)+1+(b:Int))∧Ext w4 wl) (fun bh _ _=>B.length+1-(intOf bh).toNat)
  case atStart=>exact⟨0,Nat.zero_le _,rfl,by first|rfl|(simp;done)|(congr 1;omega),Ext.refl _⟩
  obtain⟨b,hbB,rfl,rfl,hxm⟩:=hrel
  have zm:=hxm.size
  have zgm:g<wr.heap.size:=by omega
  have zwm:w.heap.size<wr.heap.size:=by omega
  obtain⟨e0,e1,e2⟩:=HF.out
  have f0:=(hxm.cell (p:=⟨w.heap.size,0,none⟩) zw4).trans e0
  have f1:=(hxm.cell (p:=⟨w.heap.size,1,none⟩) zw4).trans e1
  have f2:=(hxm.cell (p:=⟨w.heap.size,2,none⟩) zw4).trans e2
  clear e0 e1 e2
  go_upto_region 13 with(fail)
  go_cut [54] from 43 to 58 (fun s wx=>s= .bool (decide (b<Bh))∧Ext wr wx)
  case first=>
   by_cases hbi:i+1+b<B.length
   ·obtain⟨m,hm⟩: ∃m:Nat,m=i+1+b:=⟨_,rfl⟩
    have hml:m<B.length:=by omega
    have hmi:(i:Int)+1+(b:Int)=(m:Int):=by omega
    have hop:op m=decide (b<Bh):=by
     by_cases haA:b<Bh
     ·have:=HB2.out b haA;rw[←hm]at this;rw[this];simp[haA]
     have e:b=Bh:=by omega
     have:=HB3.out (by omega);rw[←e,←hm]at this;rw[this];simp[haA]
    obtain⟨q,hq⟩: ∃q,B[m]? =some q:=⟨_,zG hml⟩
    have eq:B[m]=q:=by rw[zG hml]at hq;exact Option.some.inj hq
    obtain⟨q1,q2,q3,q4⟩:=(HP.out.ext hb (hxr4.out.trans hxm)) m hml
    rw[eq]at q1 q2 q3 q4
    simp only[Nat.zero_add]at q1 q2 q3 q4
    have Hm:=aA hq
    have HOPM:=aA hop
    have hmz:(m:Int)<(B.length:Int):=by omega
    clear hq eq hm hop
    have HMI:=aA hmi
    rw[hmi]
    clear hmi
    go_region_held3 (fun W=>(∀b o,b<wr.heap.size→W.cell? ⟨b,o,none⟩=wr.cell? ⟨b,o,none⟩)∧Ext wr W) (first|with_reducible exact bG _|exact aI z_x)
     (first|(go_at_call 151;refine(HOP.out _ ((hxr4.out.trans hxm).trans z_x) m q Hm.out).mono ?_;rintro e w5 ⟨rfl,hb5⟩;rw[HOPM.out]))
    rename_i hS
    have hS2:=aA hS.2
    clear hS
    rw[←HMI.out]
    go_wp2_with fail
    go_meet
    exact⟨rfl,hS2.out⟩
   have hfa:decide (b<Bh)=false:=by simp;omega
   have HFA:=aA hfa
   have g1:decide ((i:Int)+1+(b:Int)<(B.length:Int))=false:=by simp;omega
   clear hfa
   go_quiet (fail)
   go_wp2_with fail
   go_meet
   exact⟨by rw[HFA.out],z_x⟩
  obtain⟨rfl,hxc⟩:=hcut
  clear f0 f1 f2
  by_cases hbb:b<Bh
  ·go_wp2
   go_roundw
   case rel=>exact⟨b+1,by omega,by go_num,by first|rfl|(congr 1;omega),hxm.trans hxc⟩
   simp[intOf];omega
  obtain rfl:b=Bh:=by omega
  rw[show decide (b<b)=false by simp]
  have hx5:Ext w4 wc:=hxm.trans hxc
  have hx35:Ext w3 wc:=hxl'.trans hx5
  have HO5:=aA (HO3.out.ext hx35)
  have hbel5:=aA (hbel3.trans (Below.mono hx35 (by omega)):Below (w.heap.size+1) w0 wc)
  have z5:=hx35.size
  obtain⟨p1,p2,p3,p4⟩:=HPP.out
  have r1:=(hx35.cell (p:=⟨g,i*4,none⟩) zr3).trans p1
  have r2:=(hx35.cell (p:=⟨g,i*4+1,none⟩) zr3).trans p2
  have r3:=(hx35.cell (p:=⟨g,i*4+2,none⟩) zr3).trans p3
  have r4:=(hx35.cell (p:=⟨g,i*4+3,none⟩) zr3).trans p4
  clear p1 p2 p3 p4 hxm hxc
  obtain⟨M,hM⟩: ∃M:Nat,M=(a+b)/2:=⟨_,rfl⟩
  have k1:((a:Int)+(b:Int)).tdiv 2=(M:Int):=by rw[Int.tdiv_eq_ediv_of_nonneg (by omega)];omega
  have k2:((a:Int)+(b:Int))/2=(M:Int):=by omega
  by_cases hmid:a=M
  ·have HMID:=aA (show iO op B.length i=true by rw[HMI.out,←hM];simpa using hmid)
   have hT:((a:Int)==(M:Int))=true:=by rw[beq_iff_eq];omega
   clear hmid hM
   go_wp2
   have KK: ∀W9,Below (w.heap.size+1) wc W9→W9.cell? ⟨g,i*4,none⟩=some (.int .i64 q.1.1)∧W9.cell? ⟨g,i*4+1,none⟩=some (.int .i64 q.1.2)∧W9.cell? ⟨g,i*4+2,none⟩=some (.int .i64 q.2.1)∧W9.cell? ⟨g,i*4+3,none⟩=some (.int .i64 q.2.2)∧Below (w.heap.size+1) wc W9:=
    fun W9 hW=>⟨(hW.cell (p:=⟨g,i*4,none⟩) (by simp;omega)).trans r1,(hW.cell (p:=⟨g,i*4+1,none⟩) (by simp;omega)).trans r2,(hW.cell (p:=⟨g,i*4+2,none⟩) (by simp;omega)).trans r3,(hW.cell (p:=⟨g,i*4+3,none⟩) (by simp;omega)).trans r4,hW⟩
   have HKK:=aA KK
   have hbz:w.heap.size+1≤wc.heap.size:=by omega
   clear KK r1 r2 r3 r4
   go_region_held3 (fun W9=>W9.cell? ⟨g,i*4,none⟩=some (.int .i64 q.1.1)∧W9.cell? ⟨g,i*4+1,none⟩=some (.int .i64 q.1.2)∧W9.cell? ⟨g,i*4+2,none⟩=some (.int .i64 q.2.1)∧W9.cell? ⟨g,i*4+3,none⟩=some (.int .i64 q.2.2)∧Below (w.heap.size+1) wc W9)
    (first|exact HKK.out _ (Below.drew (Below.refl _ _))|exact HKK.out _ (Below.alloc (Below.drew (Below.refl _ _)) (by simp;omega) _)|exact HKK.out _ (Below.trans (Below.drew (Below.refl _ _)) (by assumption)))
    ((refine aK8 aT vH (by rfl) _ _ (by rfl) (w.heap.size+1) _ _ (eC B (gA op B.length i)) (by rfl) HO5.out.drew q _ _ (by rfl) wc.heap.size (by rfl) (by rfl) (by omega) (by omega) (by simp;omega) ?_;intro g9 c9 w9 hown9 hb9;have HO9:=aA hown9;clear hown9))
   rename_i hS
   have hS9:=aA hS.2.2.2.2
   clear hS
   go_wp2
   go_roundw
   case rel=>exact⟨i+1,by omega,by go_num,by rw[HS.out,HMID.out,if_pos rfl];exact HO9.out,hbel5.out.trans hS9.out⟩
   simp[intOf];omega
  have HMID:=aA (show iO op B.length i=false by rw[HMI.out,←hM];simpa using hmid)
  have hT:((a:Int)==(M:Int))=false:=by rw[beq_eq_false_iff_ne];omega
  clear hmid hM
  go_wp2
  go_roundw
  case rel=>exact⟨i+1,by omega,by go_num,by rw[HS.out,HMID.out];simpa using HO5.out,hbel5.out⟩
  simp[intOf];omega
 obtain rfl:i=B.length:=by omega
 go_wp2
 go_ret
 exact⟨_,rfl,hxr,HO.out.lower (by omega)⟩
def u16G:Enc Int:=⟨1,fun x=>[.int .u16 x],fun _=>rfl,fun _ u hu=>by simp at hu;subst hu;rfl⟩
theorem aFb:cH Tryz.prog 24 84 (.int .u16 0) 1 2:=⟨Tryz.underlying24,by kernel_rfl,rfl,by decide⟩
theorem uB {w:World} {base n c:Nat} {a:Option Addr} {l:List Int} (h:Own u16G w base 84 (.slice a n c) l):Row16 w a l:=fun h0=>by
 have h':w.ownsRow base 84 1 (.slice a n c) l.length (l.flatMap u16G.cells):=h
 rcases h.2 with⟨hv,hz⟩|⟨g,cap,cur,hv,hb,hg,_⟩
 ·omega
 cases hv
 refine⟨g,0,rfl,lt_of_block hg,fun k hk=> ?_⟩
 have hf:(l.flatMap u16G.cells)[k]? =some (.int .u16 l[k]):=by
  have:=cM u16G l k _ (zG hk) 0 (.int .u16 l[k]) rfl
  simpa [u16G] using this
 rw[Nat.zero_add]
 have:=h'.cellAt k (by omega)
 rw[this,hf]
theorem aKf:Tryz.prog.underlying 160=some (.struct (Tryz.prog.fieldsOf 160)):=by kernel_rfl
theorem aEy:Tryz.prog.stoodInHeld 160=false:=by kernel_rfl
theorem aG1 (d:Nat) (a b a2 b2 c e c2 e2:Int) (w:World):(Op.equalIn (d+5) 160 (.agg #[.int .i64 a, .int .i64 b, .int .i64 a2, .int .i64 b2]) (.agg #[.int .i64 c, .int .i64 e, .int .i64 c2, .int .i64 e2])).run Tryz.prog w= .ok ((a==c&&b==e)&&(a2==c2&&b2==e2)) w:=by
 rw[run_equalIn_struct w (d+4) 160 _ _ aKf aEy]
 have h1:=kW (d+1) a b c e
 have h2:=kW (d+1) a2 b2 c2 e2
 cases h:(a==c&&b==e)<;>cases h':(a2==c2&&b2==e2)<;>simp[go_sem,h1,h2,h,h']
theorem nS {w:World} {base n c:Nat} {e:TypeId} {a:Option Addr} {l:List (aB×aB)} {j:Nat} {q:aB×aB} (h:Own aT w base e (.slice a n c) l) (hj:l[j]? =some q):
  ∃g,a=some ⟨g,0,none⟩∧g<w.heap.size∧(w.cell? ⟨g,j*4,none⟩=some (.int .i64 q.1.1)∧w.cell? ⟨g,j*4+1,none⟩=some (.int .i64 q.1.2)∧w.cell? ⟨g,j*4+2,none⟩=some (.int .i64 q.2.1)∧w.cell? ⟨g,j*4+3,none⟩=some (.int .i64 q.2.2)):=by
 obtain⟨hjl,rfl⟩:=zJ hj
 rcases h.2 with⟨hv,h0⟩|⟨g,cap,cur,hv,hb,hg,_⟩
 ·omega
 cases hv
 refine⟨g,rfl,lt_of_block hg,?_⟩
 have:=h.reads.pairs.2 j hjl
 simpa using this
end Go.Proofs.YtaellcgglldjaaaGreat

namespace Go.Proofs.YtaellcgglldjaaaGreat
open Go.RowKit Go.ChangeMaps Go.MapKept Go.WideElems
open Go.Maps (Keyed)
theorem aN4:Go.WideMaps.ArrKey Tryz.prog 159 3 2:=⟨Tryz.underlying159,by kernel_rfl,by kernel_rfl,by kernel_rfl⟩
theorem aJe:laidOutB Tryz.prog=true:=by kernel_rfl
theorem keyed2:Keyed Tryz.prog 159:=Keyed.of_law (deep_law_laid aJe (m:=2) (by omega) (of_decide_eq_true (by kernel_rfl)) (by kernel_rfl) (by rw[Tryz.underlying159]))
def gQ (a b:Int):Lit:= .string (keyBytes [.int .i64 a, .int .i64 b])
def Rg (a b:Int):Prop:=(0≤a∧a<65536)∧(0≤b∧b<65536)
theorem aAy {a:Int} (h:0≤a∧a<65536):(Lit.int .i64 a).wf=true:=by
 have hmin:IntKind.i64.min= -9223372036854775808:=rfl
 have hmax:IntKind.i64.max=9223372036854775807:=rfl
 simp only[Lit.wf,Bool.and_eq_true,decide_eq_true_eq]
 omega
theorem aIa:0<(Tryz.prog).types.size:=of_decide_eq_true (by kernel_rfl)
theorem aF3: ∃m,(Tryz.prog).types.size=m+1:=by
 have:=aIa
 generalize (Tryz.prog).types.size=n at *
 exact⟨n-1,by omega⟩
theorem aE4 {a b:Int} (h:Rg a b):keyOf Tryz.prog 159 (.agg #[.int .i64 a, .int .i64 b])=some (gQ a b):=
 Go.WideMaps.keyOf_pair aN4 Tryz.underlying3 aF3 (aAy h.1) (aAy h.2)
theorem aGq {a b c d:Int} (h:Rg a b) (h':Rg c d) (e:gQ a b=gQ c d):a=c∧b=d:=by
 have h1:=aE4 h
 rw[e]at h1
 have:=keyed2.inj h1 (aE4 h')
 simpa using this
theorem wC (a b:Int):WideAt.IsKeyLit (gQ a b):=trivial
def xP (v:Value):Option (DataW Value×List MemPlace):=some (.held v,[])
def MapV (w:World) (b:Nat) (f:Int→Int→Option Value):Prop:=
 ∃(D:DataW Value) (ks:List (Int×Int)),w.ownsMap Tryz.prog 159 xP b ks.length D∧Maps.size D=ks.length∧ks.Nodup∧(∀p∈ks,Rg p.1 p.2)∧(∀a b,(f a b).isSome=true↔(a,b)∈ks)∧
  ∀a b,Rg a b→Maps.has D (gQ a b)=(f a b).isSome∧ ∀v z,f a b=some v→D.atKey (gQ a b) z= .held v
theorem aKo {H:Type} {P:Program} {k:TypeId} {R:Value→Option (DataW H×List MemPlace)} {w:World} {b n:Nat} {D:DataW H} (h:w.ownsMap P k R b n D):w.ownsMap P k R b (Maps.size D) D:=by
 obtain⟨es,clock,hb,F,_,rfl⟩:=h
 exact⟨es,clock,hb,F,by simp[Maps.size,length_sorted],rfl⟩
theorem aJt {ks:List (Int×Int)} (h1:ks.Nodup) (h2: ∀p∈ks,Rg p.1 p.2):ks.length≤4294967296:=by
 have h3:(ks.map fun p=>p.1.toNat*65536+p.2.toNat).Nodup:=by
  unfold List.Nodup at h1⊢
  rw[List.pairwise_map]
  refine List.Pairwise.imp_of_mem (fun {a b} ha hb hne e=>hne ?_) h1
  have ra:=h2 a ha
  have rb:=h2 b hb
  unfold Rg at ra rb
  exact Prod.ext (by omega) (by omega)
 have:=fR (n:=4294967296) h3 (fun v hv=>by
  obtain⟨p,hp,rfl⟩:=List.mem_map.1 hv
  have r:=h2 p hp
  unfold Rg at r
  omega)
 simpa using this
def sR (f:Int→Int→Option Value) (x y:Int) (v:Value) (a b:Int):Option Value:=if a=x∧b=y then some v else f a b
section
variable {w w':World} {b:Nat} {f:Int→Int→Option Value}
theorem MapV.made (w:World):MapV (w.alloc (.map #[] 0)) w.heap.size (fun _ _=>none):=
 ⟨.map [],[],World.ownsMap_made _ _ _ _,rfl,List.nodup_nil,(fun _ h=>by cases h),(fun a b=>by simp),fun a b _=>⟨rfl,fun v z h=>by cases h⟩⟩
theorem MapV.lt (h:MapV w b f):b<w.heap.size:=by obtain⟨D,ks,h,_⟩:=h;exact h.lt
theorem MapV.touch {S:Nat→Prop} (h:MapV w b f) (t:Touch S w w') (hs: ¬S b):MapV w' b f:=by
 obtain⟨D,ks,h1,h2⟩:=h
 exact⟨D,ks,lN h1 t hs,h2⟩
theorem MapV.ext (h:MapV w b f) (t:Ext w w'):MapV w' b f:=h.touch (Touch.of_ext (S:=fun _=>False) t) (fun x=>x)
theorem MapV.rg (h:MapV w b f) {x y:Int} {v:Value} (hf:f x y=some v):Rg x y:=by
 obtain⟨D,ks,h1,h2,h3,h4,h5,h6⟩:=h
 exact h4 (x,y) ((h5 x y).1 (by rw[hf];rfl))
theorem MapV.not_blk (h:MapV w b f) {t:TypeId} {g:Nat} {cs:Array Value} (B:Blk w g t cs):g≠b:=by
 obtain⟨D,ks,h1,_⟩:=h
 exact B.ne_map h1
theorem MapV.not_own (h:MapV w b f) {α:Type} {E:Enc α} {base:Nat} {e:TypeId} {v:Value} {l:List α} (o:Own E w base e v l):v.ownBlock≠some b:=by
 obtain⟨D,ks,h1,_⟩:=h
 exact tS o h1
theorem aLy {w w':World} {b:Nat} (h:w.mapTurned w' b):Touch (fun k=>k=b) w w':=(Touch.refl _ w).grown h.grown (fun k hk=> .inl (by cases hk;rfl))
theorem aF6 (w:World):(zeroValue 76).run Tryz.prog w= .ok (.slice none 0 0) w:=by kernel_rfl
theorem MapV.put (h:MapV w b f) {x y:Int} (hx:Rg x y) (v:Value):
  ∃w',(Instr.mapUpdate 89 (.map (some b)) (.agg #[.int .i64 x, .int .i64 y]) v).run Tryz.prog w= .ok () w'∧MapV w' b (sR f x y v)∧Touch (fun k=>k=b) w w':=by
 obtain⟨D,ks,h1,h2,h3,h4,h5,h6⟩:=h
 have hl:=aJt h3 h4
 obtain⟨w',hrun,o,t⟩:=h1.store keyed2 Tryz.underlying89 (by unfold maxLen;omega) (aE4 hx) (val:=v) (d:= .held v) (ps:=[]) rfl
 have tidy:=h1.tidy keyed2
 have e:Maps.size (D.put (gQ x y) (.held v))=if(f x y).isSome then ks.length else ks.length+1:=by
  rw[Maps.size_put tidy,(h6 x y hx).1,h2]
 have hat: ∀a b,Rg a b→Maps.has (D.put (gQ x y) (.held v)) (gQ a b)=(sR f x y v a b).isSome∧ ∀u z,sR f x y v a b=some u→(D.put (gQ x y) (.held v)).atKey (gQ a b) z= .held u:=by
  intro a b hab
  unfold sR
  by_cases hk:a=x∧b=y
  ·obtain⟨rfl,rfl⟩:=hk
   rw[Maps.has_put_same tidy.isMap (wC _ _)]
   simp only[and_self,if_true]
   exact⟨rfl,fun u z hu=>by cases hu;exact Maps.atKey_put_same tidy.isMap (wC _ _) _ _⟩
  have hne:gQ a b≠gQ x y:=fun e=>hk (aGq hab hx e)
  rw[Maps.has_put_other hne]
  simp only[if_neg hk]
  exact⟨(h6 a b hab).1,fun u z hu=>by rw[Maps.atKey_put_other hne];exact(h6 a b hab).2 u z hu⟩
 refine⟨w',hrun,?_,aLy t⟩
 by_cases hs:(f x y).isSome=true
 ·rw[hs]at e
  refine⟨_,ks,?_,by simpa using e,h3,h4,fun a b=> ?_,hat⟩
  ·have:=aKo o;rw[e]at this;simpa using this
  unfold sR
  by_cases hk:a=x∧b=y
  ·obtain⟨rfl,rfl⟩:=hk
   simp only[and_self,if_true]
   exact⟨fun _=>(h5 a b).1 hs,fun _=>rfl⟩
  rw[if_neg hk];exact h5 a b
 have hs':(f x y).isSome=false:=by simpa using hs
 rw[hs']at e
 refine⟨_,(x,y)::ks,?_,by simpa using e,List.nodup_cons.2 ⟨fun hm=>hs ((h5 x y).2 hm),h3⟩,fun p hp=> ?_,fun a b=> ?_,hat⟩
 ·have:=aKo o;rw[e]at this;simpa using this
 ·rcases List.mem_cons.1 hp with rfl|hp
  ·exact hx
  exact h4 p hp
 unfold sR
 by_cases hk:a=x∧b=y
 ·obtain⟨rfl,rfl⟩:=hk
  simp
 rw[if_neg hk,h5 a b,List.mem_cons]
 exact⟨.inr,fun h=>h.elim (fun e=>absurd (by simpa using e) hk) id⟩
theorem MapV.get (h:MapV w b f) {x y:Int} {v:Value} (hf:f x y=some v):
  (Instr.lookup 89 (.map (some b)) (.agg #[.int .i64 x, .int .i64 y]) false).run Tryz.prog w= .ok v w:=by
 have hx:=h.rg hf
 obtain⟨D,ks,h1,h2,h3,h4,h5,h6⟩:=h
 obtain⟨u,ps,hrun,hu⟩:=h1.lookup keyed2 Tryz.underlying89 (aF6 w) (zd:= .held (.slice none 0 0)) (zp:=[]) rfl (aE4 hx)
 rw[(h6 x y hx).2 v _ hf]at hu
 have:u=v:=by unfold xP at hu;simp at hu;exact hu.1
 rw[hrun,this]
end
def InR (R:Nat→Prop) (v:Value):Prop:= ∀k,v.ownBlock=some k→R k
theorem InR.mono {R R':Nat→Prop} {v:Value} (h:InR R v) (hr: ∀k,R k→R' k):InR R' v:=fun k hk=>hr k (h k hk)
abbrev Sl:=Option Addr×Nat×Nat
def slV (s:Sl):Value:= .slice s.1 s.2.1 s.2.2
def tabE:Enc (Sl×Sl):=⟨2,fun s=>[slV s.1,slV s.2],fun _=>rfl,fun _ u hu=>by simp at hu;rcases hu with rfl|rfl<;>rfl⟩
theorem T_tabs:cH Tryz.prog 90 166 (.agg #[.slice none 0 0, .slice none 0 0]) 2 48:=⟨Tryz.underlying90,by kernel_rfl,rfl,by decide⟩
def RowsR (R:Nat→Prop) (w:World) (v:Value) (ll:List (List Int)):Prop:=
 ∃ss:List Sl,(Own iG w 0 78 v ss∧InR R v)∧ss.length=ll.length∧ ∀(i:Nat) (s:Sl) (r:List Int),ss[i]? =some s→ll[i]? =some r→Own u64E w 0 38 (slV s) r∧InR R (slV s)
def TabR (R:Nat→Prop) (w:World) (s:Sl×Sl) (t:Tab):Prop:=(Own cellE w 0 28 (slV s.1) t.1∧InR R (slV s.1))∧RowsR R w (slV s.2) t.2
section
variable {S R R':Nat→Prop} {w w':World}
theorem RowsR.touch {v:Value} {ll:List (List Int)} (h:RowsR R w v ll) (t:Touch S w w') (hs: ∀k,R k→ ¬S k):RowsR R w' v ll:=by
 obtain⟨ss,⟨h1,h1'⟩,h2,h3⟩:=h
 exact⟨ss,⟨h1.touch t (fun k hk=>hs k (h1' k hk)),h1'⟩,h2,fun i s r a b=>⟨(h3 i s r a b).1.touch t (fun k hk=>hs k ((h3 i s r a b).2 k hk)),(h3 i s r a b).2⟩⟩
theorem RowsR.mono {v:Value} {ll:List (List Int)} (h:RowsR R w v ll) (hr: ∀k,R k→R' k):RowsR R' w v ll:=by
 obtain⟨ss,⟨h1,h1'⟩,h2,h3⟩:=h
 exact⟨ss,⟨h1,h1'.mono hr⟩,h2,fun i s r a b=>⟨(h3 i s r a b).1,(h3 i s r a b).2.mono hr⟩⟩
theorem RowsR.of_at {base:Nat} {v:Value} {ll:List (List Int)} (h:RowsAt w base v ll) (hr: ∀k,base≤k→k<w.heap.size→R k):RowsR R w v ll:=by
 obtain⟨ss,h1,h2,h3⟩:=h
 exact⟨ss,⟨h1.lower (Nat.zero_le _),fun k hk=>hr k (aF h1 hk).1 (aF h1 hk).2⟩,h2,fun i s r a b=>⟨(h3 i s r a b).lower (Nat.zero_le _),fun k hk=>hr k (aF (h3 i s r a b) hk).1 (aF (h3 i s r a b) hk).2⟩⟩
theorem RowsR.at0 {v:Value} {ll:List (List Int)} (h:RowsR R w v ll):RowsAt w 0 v ll:=by
 obtain⟨ss,h1,h2,h3⟩:=h
 exact⟨ss,h1.1,h2,fun i s r a b=>(h3 i s r a b).1⟩
theorem TabR.touch {s:Sl×Sl} {t:Tab} (h:TabR R w s t) (tt:Touch S w w') (hs: ∀k,R k→ ¬S k):TabR R w' s t:=
 ⟨⟨h.1.1.touch tt (fun k hk=>hs k (h.1.2 k hk)),h.1.2⟩,h.2.touch tt hs⟩
theorem TabR.mono {s:Sl×Sl} {t:Tab} (h:TabR R w s t) (hr: ∀k,R k→R' k):TabR R' w s t:=⟨⟨h.1.1,h.1.2.mono hr⟩,h.2.mono hr⟩
end
def GatesR (R:Nat→Prop) (w:World) (m:Nat) (G:Int→Int→Option (List (aB×aB))):Prop:=
 ∃f,MapV w m f∧ ∀a b,(f a b=none∧G a b=none)∨ ∃v L,f a b=some v∧G a b=some L∧Own aT w 0 160 v L∧InR R v
def TabsR (R:Nat→Prop) (w:World) (ts:List (Sl×Sl)) (T:List Tab):Prop:=ts.length=T.length∧ ∀(i:Nat) (s:Sl×Sl) (t:Tab),ts[i]? =some s→T[i]? =some t→TabR R w s t
structure Spot where
 b:Nat
 m:Nat
 tb:Nat
 ca:Option Addr
 cc:Nat
 tc:Nat
def Spot.F (p:Spot) (k:Nat):Prop:=k=p.b∨k=p.m∨k=p.tb
def cU (p:Spot) (W H s:Int) (n N:Nat):Array Value:= #[.int .i64 W, .int .i64 H, .slice p.ca n p.cc, .int .i64 W, .int .i64 H, .int .i64 s, .map (some p.m), .slice (some ⟨p.tb,0,none⟩) N p.tc]
structure Stand (w:World) (p:Spot) (R:Nat→Prop) (W H s:Int) (l:List Int) (G:Int→Int→Option (List (aB×aB))) (T:List Tab):Prop where
 good:Good W H s l
 blk:Blk w p.b 93 (cU p W H s l.length T.length)
 cost:Own u16G w 0 84 (.slice p.ca l.length p.cc) l
 costR:InR R (.slice p.ca l.length p.cc)
 gates:GatesR R w p.m G
 tabs: ∃ts,Own tabE w 0 166 (.slice (some ⟨p.tb,0,none⟩) T.length p.tc) ts∧TabsR R w ts T
 num:(T.length:Int)=cnt W H s
 lt: ∀k,R k→k<w.heap.size
 apart: ∀k,R k→ ¬p.F k
section
variable {S R R':Nat→Prop} {w w':World} {p:Spot} {W H s:Int} {l:List Int} {G:Int→Int→Option (List (aB×aB))} {T:List Tab} {m:Nat}
theorem GatesR.touch (h:GatesR R w m G) (t:Touch S w w') (hm: ¬S m) (hs: ∀k,R k→ ¬S k):GatesR R w' m G:=by
 obtain⟨f,h1,h2⟩:=h
 refine⟨f,h1.touch t hm,fun a b=>(h2 a b).imp id ?_⟩
 rintro⟨v,L,e1,e2,o,i⟩
 exact⟨v,L,e1,e2,o.touch t (fun k hk=>hs k (i k hk)),i⟩
theorem GatesR.mono (h:GatesR R w m G) (hr: ∀k,R k→R' k):GatesR R' w m G:=by
 obtain⟨f,h1,h2⟩:=h
 refine⟨f,h1,fun a b=>(h2 a b).imp id ?_⟩
 rintro⟨v,L,e1,e2,o,i⟩
 exact⟨v,L,e1,e2,o,i.mono hr⟩
theorem TabsR.touch {ts:List (Sl×Sl)} (h:TabsR R w ts T) (t:Touch S w w') (hs: ∀k,R k→ ¬S k):TabsR R w' ts T:=⟨h.1,fun i a b x y=>(h.2 i a b x y).touch t hs⟩
theorem TabsR.mono {ts:List (Sl×Sl)} (h:TabsR R w ts T) (hr: ∀k,R k→R' k):TabsR R' w ts T:=⟨h.1,fun i a b x y=>(h.2 i a b x y).mono hr⟩
theorem Stand.touch (h:Stand w p R W H s l G T) (t:Touch S w w') (hf: ∀k,p.F k→ ¬S k) (hs: ∀k,R k→ ¬S k):Stand w' p R W H s l G T where
 good:=h.good
 blk:=h.blk.touch t (hf _ (.inl rfl))
 cost:=h.cost.touch t (fun k hk=>hs k (h.costR k hk))
 costR:=h.costR
 gates:=h.gates.touch t (hf _ (.inr (.inl rfl))) hs
 tabs:=by
  obtain⟨ts,h1,h2⟩:=h.tabs
  exact⟨ts,h1.touch t (fun k hk=>by cases hk;exact hf _ (.inr (.inr rfl))),h2.touch t hs⟩
 num:=h.num
 lt k hk:=Nat.lt_of_lt_of_le (h.lt k hk) t.size
 apart:=h.apart
theorem Stand.ext (h:Stand w p R W H s l G T) (t:Ext w w'):Stand w' p R W H s l G T:=h.touch (Touch.of_ext (S:=fun _=>False) t) (fun _ _ x=>x) (fun _ _ x=>x)
theorem Stand.foot (h:Stand w p R W H s l G T) {k:Nat} (hk:p.F k):k<w.heap.size:=by
 rcases hk with rfl|rfl|rfl
 ·exact h.blk.lt
 ·obtain⟨f,h1,_⟩:=h.gates;exact h1.lt
 obtain⟨ts,h1,_⟩:=h.tabs;exact(aF h1 rfl).2
theorem Stand.row (h:Stand w p R W H s l G T):Row16 w p.ca l:=uB h.cost
theorem Stand.bm (h:Stand w p R W H s l G T):p.b≠p.m:=by obtain⟨f,h1,_⟩:=h.gates;exact h1.not_blk h.blk
theorem Stand.bt (h:Stand w p R W H s l G T):p.b≠p.tb:=by
 obtain⟨ts,h1,_⟩:=h.tabs
 exact fun e=>h.blk.ne_own h1 (by decide) (by rw[e];rfl)
theorem Stand.mt (h:Stand w p R W H s l G T):p.m≠p.tb:=by
 obtain⟨ts,h1,_⟩:=h.tabs
 obtain⟨f,h2,_⟩:=h.gates
 exact fun e=>h2.not_own h1 (by rw[e];rfl)
theorem Stand.widen (h:Stand w p R W H s l G T) (hr: ∀k,R k→R' k) (hl: ∀k,R' k→k<w.heap.size) (ha: ∀k,R' k→ ¬p.F k):Stand w p R' W H s l G T where
 good:=h.good
 blk:=h.blk
 cost:=h.cost
 costR:=h.costR.mono hr
 gates:=h.gates.mono hr
 tabs:=by obtain⟨ts,h1,h2⟩:=h.tabs;exact⟨ts,h1,h2.mono hr⟩
 num:=h.num
 lt:=hl
 apart:=ha
end
def xN (W H s:Int) (l:List Int) (G:Int→Int→Option (List (aB×aB))):Prop:= ∀a b,0≤a→b<cnt W H s→a<b→b∈aQ W H s a→G a b=some (btw l W H s a b)
structure aN1 (W H s:Int) (l:List Int) (G:Int→Int→Option (List (aB×aB))) (T:List Tab):Prop where
 gates:xN W H s l G
 tabs: ∀i:Nat,i<T.length→T[i]? =some (dK W H s l (i:Int))
def WorldAt (w:World) (p:Spot) (R:Nat→Prop) (W H s:Int) (l:List Int):Prop:= ∃G T,Stand w p R W H s l G T∧aN1 W H s l G T
theorem WorldAt.touch {S R:Nat→Prop} {w w':World} {p:Spot} {W H s:Int} {l:List Int} (h:WorldAt w p R W H s l) (t:Touch S w w') (hf: ∀k,p.F k→ ¬S k) (hs: ∀k,R k→ ¬S k):WorldAt w' p R W H s l:=by
 obtain⟨G,T,h1,h2⟩:=h
 exact⟨G,T,h1.touch t hf hs,h2⟩
theorem WorldAt.ext {R:Nat→Prop} {w w':World} {p:Spot} {W H s:Int} {l:List Int} (h:WorldAt w p R W H s l) (t:Ext w w'):WorldAt w' p R W H s l:=by
 obtain⟨G,T,h1,h2⟩:=h
 exact⟨G,T,h1.ext t,h2⟩
end Go.Proofs.YtaellcgglldjaaaGreat

