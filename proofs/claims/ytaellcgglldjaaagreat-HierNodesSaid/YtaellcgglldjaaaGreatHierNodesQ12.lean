/- Part of a proof: RefG. -/
import Derived.Test.YtaellcgglldjaaaGreatHierNodesQ06
import Derived.Test.YtaellcgglldjaaaGreatHierNodesQ04
import Derived.Test.YtaellcgglldjaaaGreatHierNodesQ01
import Derived.Test.YtaellcgglldjaaaGreatHierNodesQ07
set_option linter.all false
set_option linter.unusedVariables false
set_option linter.unusedSimpArgs false
namespace Go.Proofs.YtaellcgglldjaaaGreat
open Go.RowKit
theorem aAq (W H:Int) (a:Option Addr) (l:List Int) (c:Nat) (p:aB×aB) (w:World) (hm:bM W H=true) (hl:(l.length:Int)=W*H) (hr:Row16 w a l) (hu:cN l) (hi:sP W H p):
  Calls Tryz.prog 151 #[.agg #[.int .i64 W, .int .i64 H, .slice a l.length c], .agg #[.int .i64 p.1.1, .int .i64 p.1.2, .int .i64 p.2.1, .int .i64 p.2.2]] w fun e w'=>e= .returned (.bool (lJ l W p))∧Ext w w':=by
 obtain⟨⟨ax,ay⟩,bx,bY⟩:=p
 obtain⟨h1,h2⟩:=hi
 simp only at h1 h2⊢
 have k1: ∀w',Ext w w'→Calls Tryz.prog 20 #[.agg #[.int .i64 W, .int .i64 H, .slice a l.length c], .agg #[.int .i64 ax, .int .i64 ay]] w' fun e w2=>e= .returned (.int .u64 (aO l W (ax,ay)))∧Ext w' w2:=fun w' hx=>
  mD W H a l c ax ay w' hm hl (hr.ext hx) hu h1.1 h1.2.1 h1.2.2.1 h1.2.2.2
 have k2: ∀w',Ext w w'→Calls Tryz.prog 20 #[.agg #[.int .i64 W, .int .i64 H, .slice a l.length c], .agg #[.int .i64 bx, .int .i64 bY]] w' fun e w2=>e= .returned (.int .u64 (aO l W (bx,bY)))∧Ext w' w2:=fun w' hx=>
  mD W H a l c bx bY w' hm hl (hr.ext hx) hu h2.1 h2.2.1 h2.2.2.1 h2.2.2.2
 have b1:=(cC hu W (ax,ay)).1
 have b2:=(cC hu W (bx,bY)).1
 unfold lJ
 simp only
 generalize aO l W (ax,ay)=u at *
 generalize aO l W (bx,bY)=v at *
 obtain⟨n,hn⟩: ∃n,l.length=n:=⟨_,rfl⟩
 rw[hn]at k1 k2⊢
 have K1:=aA k1
 have K2:=aA k2
 clear k1 k2 hm hl hr hu h1 h2 hn
 by_cases hu0:u=0
 ·have q:(u !=0)=false:=by simpa using hu0
  clear b1
  have U0:=aA hu0
  clear hu0
  go_enter Tryz.func151,Tryz.ntmps151
  go_wp2_with fail
  refine(K1.out _ z_x).mono ?_
  rintro e w1 ⟨rfl,hb1⟩
  obtain⟨hc1,hf1⟩:=hb1.cells;have hz1:=hb1.size;(repeat(first|rw[World.size_alloc]at hz1|rw[World.size_drew]at hz1));have z1_0:w.heap.size<w1.heap.size:=(by omega);have z1_1:w.heap.size+1<w1.heap.size:=(by omega)
  go_wp2
  go_ret
  exact⟨by rw[U0.out];rfl,z_x⟩
 ·have q:(u !=0)=true:=by simpa using hu0
  have U0:=aA (show decide (0<u)=true by simp;omega)
  clear hu0
  go_enter Tryz.func151,Tryz.ntmps151
  go_wp2_with fail
  refine(K1.out _ z_x).mono ?_
  rintro e w1 ⟨rfl,hb1⟩
  obtain⟨hc1,hf1⟩:=hb1.cells;have hz1:=hb1.size;(repeat(first|rw[World.size_alloc]at hz1|rw[World.size_drew]at hz1));have z1_0:w.heap.size<w1.heap.size:=(by omega);have z1_1:w.heap.size+1<w1.heap.size:=(by omega)
  go_wp2_with fail
  refine(K2.out _ z_x).mono ?_
  rintro e w2 ⟨rfl,hb2⟩
  go_wp2
  go_ret
  have e9:(v !=0)=decide (0<v):=by rw[Bool.eq_iff_iff];simp;omega
  exact⟨by rw[U0.out,←e9];simp,z_x⟩
theorem uV:bV Tryz.prog 112 132 (.agg #[.int .i64 0, .int .i64 0, .int .i64 0, .int .i64 0]) 4 32:=⟨Tryz.underlying112,by kernel_rfl,rfl,by decide⟩
def lC (w:World) (L:List (aB×aB)) (e:Ending) (w':World):Prop:= ∃v,e= .returned v∧Ext w w'∧Own aS w' w.heap.size 132 v L
theorem aGy (op:Nat→Bool) (B:List (aB×aB)) (i:Nat) (p:aB×aB) (h:B[i]? =some p):dS B (fO op B.length (i+1))=dS B (fO op B.length i)++if iD op B.length i=true then[p] else[]:=by
 rw[aF1]
 split
 ·exact eQ B _ i p h
 ·simp
theorem yT (op:Nat→Bool) (B:List (aB×aB)) (i:Nat):(dS B (fO op B.length i)).length≤i:=by
 unfold dS fO
 refine Nat.le_trans (List.length_filterMap_le _ _) (Nat.le_trans (List.length_filter_le _ _) ?_)
 simp
set_option maxRecDepth 100000 in
set_option maxHeartbeats 4000000 in
theorem tZ (W H:Int) (ad:Option Addr) (l:List Int) (c g cc:Nat) (B:List (aB×aB)) (w:World) (hm:bM W H=true) (hl:(l.length:Int)=W*H) (hr:Row16 w ad l) (hu:cN l) (hB:B.length≤1000) (hb:g<w.heap.size) (hP:PairsAt w g 0 B) (hin: ∀(k:Nat) (p:aB×aB),B[k]? =some p→sP W H p):
  Calls Tryz.prog 93 #[.agg #[.int .i64 W, .int .i64 H, .slice ad l.length c], .slice (some ⟨g,0,none⟩) B.length cc] w (lC w (dS B (fO (opB l W B) B.length B.length))):=by
 have hop: ∀w',Ext w w'→ ∀(k:Nat) (p:aB×aB),B[k]? =some p→Calls Tryz.prog 151 #[.agg #[.int .i64 W, .int .i64 H, .slice ad l.length c], .agg #[.int .i64 p.1.1, .int .i64 p.1.2, .int .i64 p.2.1, .int .i64 p.2.2]] w' fun e w2=>e= .returned (.bool (opB l W B k))∧Ext w' w2:=by
  intro w' hx k p hp
  have e:opB l W B k=lJ l W p:=by unfold opB;rw[hp]
  rw[e]
  exact aAq W H ad l c p w' hm hl (hr.ext hx) hu (hin k p hp)
 generalize opB l W B=op at *
 obtain⟨n,hn⟩: ∃n,l.length=n:=⟨_,rfl⟩
 rw[hn]at hop⊢
 have HOP:=aA hop
 have HP:=aA hP
 clear hop hP hl hr hu hin hn hm
 go_enter Tryz.func93,Tryz.ntmps93
 go_wp2
 obtain⟨w0,hw0⟩: ∃w0,w0=(w.alloc (.cells #[.int .i64 W, .int .i64 H, .slice ad n c] 26)).alloc (.cells #[] 132):=⟨_,rfl⟩
 have hx0:Ext w w0:=by rw[hw0];exact z_x
 have c0:w0.cell? ⟨w.heap.size,0,none⟩=some (.int .i64 W):=by rw[hw0];simp[go_sem]
 have c1:w0.cell? ⟨w.heap.size,1,none⟩=some (.int .i64 H):=by rw[hw0];simp[go_sem]
 have c2:w0.cell? ⟨w.heap.size,2,none⟩=some (.slice ad n c):=by rw[hw0];simp[go_sem]
 have z0:w.heap.size+1<w0.heap.size:=by rw[hw0];simp
 have o0:=aA (show Own aS w0 (w.heap.size+1) 132 (.slice (some ⟨w.heap.size+1,0,none⟩) 0 0) [] by rw[hw0];exact Own.lit0 _ _ _ _ _ (by simp) (Nat.le_refl _))
 rw[←hw0]
 have C:=aA (show _∧_∧_ from⟨c0,c1,c2⟩)
 clear hw0 c0 c1 c2
 go_loopw [5,6] (fun o i wr=> ∃k:Nat,k≤B.length∧i= .int .i64 k∧Own aS wr (w.heap.size+1) 132 o (dS B (fO op B.length k))∧Below (w.heap.size+1) w0 wr) (fun _ i _=>B.length-(intOf i).toNat)
 case atStart=>exact⟨0,Nat.zero_le _,rfl,o0.out,Below.refl _ _⟩
 case round=>
  obtain⟨i,hi,rfl,hown,hbel⟩:=hrel
  have HO:=aA hown
  clear hown
  have hz:=hbel.size
  have hxr:Ext w wr:=hx0.of_below hbel (by omega)
  obtain⟨c0,c1,c2⟩:=C.out
  have d0:=(hbel.cell (p:=⟨w.heap.size,0,none⟩) (by simp)).trans c0
  have d1:=(hbel.cell (p:=⟨w.heap.size,1,none⟩) (by simp)).trans c1
  have d2:=(hbel.cell (p:=⟨w.heap.size,2,none⟩) (by simp)).trans c2
  clear c0 c1 c2
  have zr:g<wr.heap.size:=by omega
  have zw:w.heap.size<wr.heap.size:=by omega
  by_cases hlt:i<B.length
  ·obtain⟨q,hq⟩: ∃q,B[i]? =some q:=⟨_,List.getElem?_eq_getElem hlt⟩
   have eq:B[i]=q:=by rw[List.getElem?_eq_getElem hlt]at hq;exact Option.some.inj hq
   obtain⟨q1,q2,q3,q4⟩:=(HP.out.ext hb hxr) i hlt
   rw[eq]at q1 q2 q3 q4
   simp only[Nat.zero_add]at q1 q2 q3 q4
   have Hq:=aA hq
   have HS:=aA (aGy op B i q hq)
   have hpl:=yT op B i
   clear hq eq
   cases ho:op i
   ·have HM:=aA (show iD op B.length i=false by simp[iD,ho])
    go_wp2
    go_region_held3 (fun W=>(∀b o,b<wr.heap.size→W.cell? ⟨b,o,none⟩=wr.cell? ⟨b,o,none⟩)∧Ext wr W) (first|with_reducible exact aI _|exact aE z_x)
     (first|(go_at_call 151;refine(HOP.out _ (hxr.trans z_x) i q Hq.out).mono ?_;rintro e w3 ⟨rfl,hb3⟩;rw[ho]))
    rename_i hS
    have hx3:Ext wr w3:=hS.2
    clear hS
    go_wp2
    go_roundw
    case rel=>exact⟨i+1,by omega,by go_num,by rw[HS.out,HM.out];simpa using HO.out.ext hx3,hbel.trans (Below.mono hx3 (by omega))⟩
    case measure=>simp[intOf];omega
   ·have HO1:=aA ho
    clear ho
    go_wp2
    go_region_held3 (fun W=>(∀b o,b<wr.heap.size→W.cell? ⟨b,o,none⟩=wr.cell? ⟨b,o,none⟩)∧Ext wr W) (first|with_reducible exact aI _|exact aE z_x)
     (first|(go_at_call 151;refine(HOP.out _ (hxr.trans z_x) i q Hq.out).mono ?_;rintro e w3 ⟨rfl,hb3⟩;rw[HO1.out]))
    rename_i hS
    have hx3:Ext wr w3:=hS.2
    clear hS
    go_wp2
    obtain⟨A1,A2,A3⟩:gQ op i≤i∧(∀j,j<gQ op i→op (i-1-j)=true)∧(gQ op i<i→op (i-1-gQ op i)=false):=mG i (fun j=>op (i-1-j))
    have HMI:=aA (show iD op B.length i=decide (gQ op i=(gQ op i+iJ op B.length i)/2) by unfold iD;rw[HO1.out,Bool.true_and])
    obtain⟨B1,B2,B3⟩:iJ op B.length i≤B.length-i-1∧(∀j,j<iJ op B.length i→op (i+1+j)=true)∧(iJ op B.length i<B.length-i-1→op (i+1+iJ op B.length i)=false):=mG (B.length-i-1) (fun j=>op (i+1+j))
    generalize gQ op i=A at *
    generalize iJ op B.length i=Bh at *
    have HA2:=aA A2
    have HA3:=aA A3
    have HB2:=aA B2
    have HB3:=aA B3
    have HO3:=aA (HO.out.ext hx3)
    have hbel3:Below (w.heap.size+1) w0 w3:=hbel.trans (Below.mono hx3 (by omega))
    have hxr3:Ext w w3:=hxr.trans hx3
    have hz3:=hx3.size
    have e0:=(hx3.cell (p:=⟨w.heap.size,0,none⟩) zw).trans d0
    have e1:=(hx3.cell (p:=⟨w.heap.size,1,none⟩) zw).trans d1
    have e2:=(hx3.cell (p:=⟨w.heap.size,2,none⟩) zw).trans d2
    have p1:=(hx3.cell (p:=⟨g,i*4,none⟩) zr).trans q1
    have p2:=(hx3.cell (p:=⟨g,i*4+1,none⟩) zr).trans q2
    have p3:=(hx3.cell (p:=⟨g,i*4+2,none⟩) zr).trans q3
    have p4:=(hx3.cell (p:=⟨g,i*4+3,none⟩) zr).trans q4
    have HE:=aA (show _∧_∧_ from⟨e0,e1,e2⟩)
    have HPP:=aA (show _∧_∧_∧_ from⟨p1,p2,p3,p4⟩)
    clear A2 A3 B2 B3 d0 d1 d2 q1 q2 q3 q4 hb3 HO hx3 hxr hbel e0 e1 e2 p1 p2 p3 p4
    have zr3:g<w3.heap.size:=by omega
    have zw3:w.heap.size<w3.heap.size:=by omega
    go_loopw [7,8] (fun ah k wl=> ∃a:Nat,a≤A∧ah= .int .i64 a∧k= .int .i64 ((i:Int)-1-(a:Int))∧Ext w3 wl) (fun ah _ _=>i+1-(intOf ah).toNat)
    case atStart=>exact⟨0,Nat.zero_le _,rfl,by first|rfl|(simp;done)|(congr 1;omega),Ext.refl _⟩
    case round=>
     obtain⟨a,ha,rfl,rfl,hxl⟩:=hrel
     have zl:=hxl.size
     have zgl:g<_:=Nat.lt_of_lt_of_le zr3 zl
     have zwl:w.heap.size<_:=Nat.lt_of_lt_of_le zw3 zl
     obtain⟨e0,e1,e2⟩:=HE.out
     have f0:=(hxl.cell (p:=⟨w.heap.size,0,none⟩) zw3).trans e0
     have f1:=(hxl.cell (p:=⟨w.heap.size,1,none⟩) zw3).trans e1
     have f2:=(hxl.cell (p:=⟨w.heap.size,2,none⟩) zw3).trans e2
     clear e0 e1 e2
     go_upto_region 8 with(fail)
     go_cut [36] from 27 to 40 (fun s wx=>s= .bool (decide (a<A))∧Ext wr wx)
     case first=>
      by_cases hai:a<i
      ·obtain⟨m,hm⟩: ∃m:Nat,m=i-1-a:=⟨_,rfl⟩
       have hml:m<B.length:=by omega
       have hmi:(i:Int)-1-(a:Int)=(m:Int):=by omega
       have hop:op m=decide (a<A):=by
        by_cases haA:a<A
        ·have:=HA2.out a haA;rw[←hm]at this;rw[this];simp[haA]
        ·have e:a=A:=by omega
         have:=HA3.out (by omega);rw[←e,←hm]at this;rw[this];simp[haA]
       obtain⟨q,hq⟩: ∃q,B[m]? =some q:=⟨_,List.getElem?_eq_getElem hml⟩
       have eq:B[m]=q:=by rw[List.getElem?_eq_getElem hml]at hq;exact Option.some.inj hq
       obtain⟨q1,q2,q3,q4⟩:=(HP.out.ext hb (hxr3.trans hxl)) m hml
       rw[eq]at q1 q2 q3 q4
       simp only[Nat.zero_add]at q1 q2 q3 q4
       have Hm:=aA hq
       have HOPM:=aA hop
       have hmz:(0:Int)≤(m:Int):=by omega
       clear hq eq hm hop
       have HMI:=aA hmi
       rw[hmi]
       clear hmi
       go_region_held3 (fun W=>(∀b o,b<wr.heap.size→W.cell? ⟨b,o,none⟩=wr.cell? ⟨b,o,none⟩)∧Ext wr W) (first|with_reducible exact aI _|exact aE z_x)
        (first|(go_at_call 151;refine(HOP.out _ ((hxr3.trans hxl).trans z_x) m q Hm.out).mono ?_;rintro e w5 ⟨rfl,hb5⟩;rw[HOPM.out]))
       rename_i hS
       have hS2:=aA hS.2
       clear hS
       rw[←HMI.out]
       go_wp2_with fail
       go_meet
       exact⟨rfl,hS2.out⟩
      ·have e:a=i:=by omega
       have hneg: ¬(0:Int)≤(i:Int)-1-(a:Int):=by omega
       have hfa:decide (a<A)=false:=by simp;omega
       have HFA:=aA hfa
       have g1:decide ((0:Int)≤(i:Int)-1-(a:Int))=false:=by simp;omega
       have g2:decide ((a:Int)≤(i:Int)-1)=false:=by simp;omega
       clear hfa e hneg
       go_quiet (fail)
       go_wp2_with fail
       go_meet
       exact⟨by rw[HFA.out],z_x⟩
     case rest=>
      obtain⟨rfl,hxc⟩:=hcut
      clear f0 f1 f2
      by_cases haA:a<A
      ·go_wp2
       go_roundw
       case rel=>exact⟨a+1,by omega,by go_num,by first|rfl|(congr 1;omega),hxl.trans hxc⟩
       case measure=>simp[intOf];omega
      ·obtain rfl:a=A:=by omega
       rw[show decide (a<a)=false by simp]
       have hxl':Ext w3 _:=hxl.trans hxc
       go_wp2
       have hxr4:=aA (hxr3.trans hxl')
       obtain⟨w4,hw4⟩: ∃w4,w4=wc:=⟨_,rfl⟩
       rw[←hw4]at hxl'⊢
       rw[←hw4]at hxr4
       have zl4:=hxl'.size
       obtain⟨e0,e1,e2⟩:=HE.out
       have f0:=(hxl'.cell (p:=⟨w.heap.size,0,none⟩) zw3).trans e0
       have f1:=(hxl'.cell (p:=⟨w.heap.size,1,none⟩) zw3).trans e1
       have f2:=(hxl'.cell (p:=⟨w.heap.size,2,none⟩) zw3).trans e2
       have HF:=aA (show _∧_∧_ from⟨f0,f1,f2⟩)
       have zg4:g<w4.heap.size:=by omega
       have zw4:w.heap.size<w4.heap.size:=by omega
       clear e0 e1 e2 f0 f1 f2 hw4 hxl hxc
       go_loopw [9,10] (fun bh k wl=> ∃b:Nat,b≤Bh∧bh= .int .i64 b∧k= .int .i64 ((i:Int)+1+(b:Int))∧Ext w4 wl) (fun bh _ _=>B.length+1-(intOf bh).toNat)
       case atStart=>exact⟨0,Nat.zero_le _,rfl,by first|rfl|(simp;done)|(congr 1;omega),Ext.refl _⟩
       case round=>
        obtain⟨b,hbB,rfl,rfl,hxm⟩:=hrel
        have zm:=hxm.size
        have zgm:g<wr.heap.size:=by omega
        have zwm:w.heap.size<wr.heap.size:=by omega
        obtain⟨e0,e1,e2⟩:=HF.out
        have f0:=(hxm.cell (p:=⟨w.heap.size,0,none⟩) zw4).trans e0
        have f1:=(hxm.cell (p:=⟨w.heap.size,1,none⟩) zw4).trans e1
        have f2:=(hxm.cell (p:=⟨w.heap.size,2,none⟩) zw4).trans e2
        clear e0 e1 e2
        go_upto_region 13 with(fail)
        go_cut [54] from 43 to 58 (fun s wx=>s= .bool (decide (b<Bh))∧Ext wr wx)
        case first=>
         by_cases hbi:i+1+b<B.length
         ·obtain⟨m,hm⟩: ∃m:Nat,m=i+1+b:=⟨_,rfl⟩
          have hml:m<B.length:=by omega
          have hmi:(i:Int)+1+(b:Int)=(m:Int):=by omega
          have hop:op m=decide (b<Bh):=by
           by_cases haA:b<Bh
           ·have:=HB2.out b haA;rw[←hm]at this;rw[this];simp[haA]
           ·have e:b=Bh:=by omega
            have:=HB3.out (by omega);rw[←e,←hm]at this;rw[this];simp[haA]
          obtain⟨q,hq⟩: ∃q,B[m]? =some q:=⟨_,List.getElem?_eq_getElem hml⟩
          have eq:B[m]=q:=by rw[List.getElem?_eq_getElem hml]at hq;exact Option.some.inj hq
          obtain⟨q1,q2,q3,q4⟩:=(HP.out.ext hb (hxr4.out.trans hxm)) m hml
          rw[eq]at q1 q2 q3 q4
          simp only[Nat.zero_add]at q1 q2 q3 q4
          have Hm:=aA hq
          have HOPM:=aA hop
          have hmz:(m:Int)<(B.length:Int):=by omega
          clear hq eq hm hop
          have HMI:=aA hmi
          rw[hmi]
          clear hmi
          go_region_held3 (fun W=>(∀b o,b<wr.heap.size→W.cell? ⟨b,o,none⟩=wr.cell? ⟨b,o,none⟩)∧Ext wr W) (first|with_reducible exact aI _|exact aE z_x)
           (first|(go_at_call 151;refine(HOP.out _ ((hxr4.out.trans hxm).trans z_x) m q Hm.out).mono ?_;rintro e w5 ⟨rfl,hb5⟩;rw[HOPM.out]))
          rename_i hS
          have hS2:=aA hS.2
          clear hS
          rw[←HMI.out]
          go_wp2_with fail
          go_meet
          exact⟨rfl,hS2.out⟩
         ·have hfa:decide (b<Bh)=false:=by simp;omega
          have HFA:=aA hfa
          have g1:decide ((i:Int)+1+(b:Int)<(B.length:Int))=false:=by simp;omega
          clear hfa
          go_quiet (fail)
          go_wp2_with fail
          go_meet
          exact⟨by rw[HFA.out],z_x⟩
        case rest=>
         obtain⟨rfl,hxc⟩:=hcut
         clear f0 f1 f2
         by_cases hbb:b<Bh
         ·go_wp2
          go_roundw
          case rel=>exact⟨b+1,by omega,by go_num,by first|rfl|(congr 1;omega),hxm.trans hxc⟩
          case measure=>simp[intOf];omega
         ·obtain rfl:b=Bh:=by omega
          rw[show decide (b<b)=false by simp]
          have hx5:Ext w4 wc:=hxm.trans hxc
          have hx35:Ext w3 wc:=hxl'.trans hx5
          have HO5:=aA (HO3.out.ext hx35)
          have hbel5:=aA (hbel3.trans (Below.mono hx35 (by omega)):Below (w.heap.size+1) w0 wc)
          have z5:=hx35.size
          obtain⟨p1,p2,p3,p4⟩:=HPP.out
          have r1:=(hx35.cell (p:=⟨g,i*4,none⟩) zr3).trans p1
          have r2:=(hx35.cell (p:=⟨g,i*4+1,none⟩) zr3).trans p2
          have r3:=(hx35.cell (p:=⟨g,i*4+2,none⟩) zr3).trans p3
          have r4:=(hx35.cell (p:=⟨g,i*4+3,none⟩) zr3).trans p4
          clear p1 p2 p3 p4 hxm hxc
          obtain⟨M,hM⟩: ∃M:Nat,M=(a+b)/2:=⟨_,rfl⟩
          have k1:((a:Int)+(b:Int)).tdiv 2=(M:Int):=by rw[Int.tdiv_eq_ediv_of_nonneg (by omega)];omega
          have k2:((a:Int)+(b:Int))/2=(M:Int):=by omega
          by_cases hmid:a=M
          ·have HMID:=aA (show iD op B.length i=true by rw[HMI.out,←hM];simpa using hmid)
           have hT:((a:Int)==(M:Int))=true:=by rw[beq_iff_eq];omega
           clear hmid hM
           go_wp2
           have KK: ∀W9,Below (w.heap.size+1) wc W9→W9.cell? ⟨g,i*4,none⟩=some (.int .i64 q.1.1)∧W9.cell? ⟨g,i*4+1,none⟩=some (.int .i64 q.1.2)∧W9.cell? ⟨g,i*4+2,none⟩=some (.int .i64 q.2.1)∧W9.cell? ⟨g,i*4+3,none⟩=some (.int .i64 q.2.2)∧Below (w.heap.size+1) wc W9:=
            fun W9 hW=>⟨(hW.cell (p:=⟨g,i*4,none⟩) (by simp;omega)).trans r1,(hW.cell (p:=⟨g,i*4+1,none⟩) (by simp;omega)).trans r2,(hW.cell (p:=⟨g,i*4+2,none⟩) (by simp;omega)).trans r3,(hW.cell (p:=⟨g,i*4+3,none⟩) (by simp;omega)).trans r4,hW⟩
           have HKK:=aA KK
           have hbz:w.heap.size+1≤wc.heap.size:=by omega
           clear KK r1 r2 r3 r4
           go_region_held3 (fun W9=>W9.cell? ⟨g,i*4,none⟩=some (.int .i64 q.1.1)∧W9.cell? ⟨g,i*4+1,none⟩=some (.int .i64 q.1.2)∧W9.cell? ⟨g,i*4+2,none⟩=some (.int .i64 q.2.1)∧W9.cell? ⟨g,i*4+3,none⟩=some (.int .i64 q.2.2)∧Below (w.heap.size+1) wc W9)
            (first|exact HKK.out _ (Below.drew (Below.refl _ _))|exact HKK.out _ (Below.alloc (Below.drew (Below.refl _ _)) (by simp;omega) _)|exact HKK.out _ (Below.trans (Below.drew (Below.refl _ _)) (by assumption)))
            ((refine aJ1 aS uV (by rfl) _ _ (by rfl) (w.heap.size+1) _ _ (dS B (fO op B.length i)) (by rfl) HO5.out.drew q _ _ (by rfl) wc.heap.size (by rfl) (by rfl) (by omega) (by omega) (by simp;omega) ?_;intro g9 c9 w9 hown9 hb9;have HO9:=aA hown9;clear hown9))
           rename_i hS
           have hS9:=aA hS.2.2.2.2
           clear hS
           go_wp2
           go_roundw
           case rel=>exact⟨i+1,by omega,by go_num,by rw[HS.out,HMID.out,if_pos rfl];exact HO9.out,hbel5.out.trans hS9.out⟩
           case measure=>simp[intOf];omega
          ·have HMID:=aA (show iD op B.length i=false by rw[HMI.out,←hM];simpa using hmid)
           have hT:((a:Int)==(M:Int))=false:=by rw[beq_eq_false_iff_ne];omega
           clear hmid hM
           go_wp2
           go_roundw
           case rel=>exact⟨i+1,by omega,by go_num,by rw[HS.out,HMID.out];simpa using HO5.out,hbel5.out⟩
           case measure=>simp[intOf];omega
  ·obtain rfl:i=B.length:=by omega
   go_wp2
   go_ret
   exact⟨_,rfl,hxr,HO.out.lower (by omega)⟩
def u16G:Enc Int:=⟨1,fun x=>[.int .u16 x],fun _=>rfl,fun _ u hu=>by simp at hu;subst hu;rfl⟩
theorem aFb:bV Tryz.prog 24 84 (.int .u16 0) 1 2:=⟨Tryz.underlying24,by kernel_rfl,rfl,by decide⟩
theorem sE {w:World} {base n c:Nat} {a:Option Addr} {l:List Int} (h:Own u16G w base 84 (.slice a n c) l):Row16 w a l:=fun h0=>by
 have h':w.ownsRow base 84 1 (.slice a n c) l.length (l.flatMap u16G.cells):=h
 rcases h.2 with⟨hv,hz⟩|⟨g,cap,cur,hv,hb,hg,_⟩
 ·omega
 ·cases hv
  refine⟨g,0,rfl,lt_of_block hg,fun k hk=> ?_⟩
  have hf:(l.flatMap u16G.cells)[k]? =some (.int .u16 l[k]):=by
   have:=cG u16G l k _ (List.getElem?_eq_getElem hk) 0 (.int .u16 l[k]) rfl
   simpa [u16G] using this
  rw[Nat.zero_add]
  have:=h'.cellAt k (by omega)
  rw[this,hf]
theorem aIa:Tryz.prog.underlying 160=some (.struct (Tryz.prog.fieldsOf 160)):=by kernel_rfl
theorem aE1:Tryz.prog.stoodInHeld 160=false:=by kernel_rfl
theorem aEl (d:Nat) (a b a2 b2 c e c2 e2:Int) (w:World):(Op.equalIn (d+5) 160 (.agg #[.int .i64 a, .int .i64 b, .int .i64 a2, .int .i64 b2]) (.agg #[.int .i64 c, .int .i64 e, .int .i64 c2, .int .i64 e2])).run Tryz.prog w= .ok ((a==c&&b==e)&&(a2==c2&&b2==e2)) w:=by
 rw[run_equalIn_struct w (d+4) 160 _ _ aIa aE1]
 have h1:=kQ (d+1) a b c e
 have h2:=kQ (d+1) a2 b2 c2 e2
 cases h:(a==c&&b==e)<;>cases h':(a2==c2&&b2==e2)<;>simp[go_sem,h1,h2,h,h']
theorem kB {w:World} {base n c:Nat} {e:TypeId} {a:Option Addr} {l:List (aB×aB)} {j:Nat} {q:aB×aB} (h:Own aS w base e (.slice a n c) l) (hj:l[j]? =some q):
  ∃g,a=some ⟨g,0,none⟩∧g<w.heap.size∧(w.cell? ⟨g,j*4,none⟩=some (.int .i64 q.1.1)∧w.cell? ⟨g,j*4+1,none⟩=some (.int .i64 q.1.2)∧w.cell? ⟨g,j*4+2,none⟩=some (.int .i64 q.2.1)∧w.cell? ⟨g,j*4+3,none⟩=some (.int .i64 q.2.2)):=by
 obtain⟨hjl,rfl⟩:=List.getElem?_eq_some_iff.1 hj
 rcases h.2 with⟨hv,h0⟩|⟨g,cap,cur,hv,hb,hg,_⟩
 ·omega
 ·cases hv
  refine⟨g,rfl,lt_of_block hg,?_⟩
  have:=h.reads.pairs.2 j hjl
  simpa using this
end Go.Proofs.YtaellcgglldjaaaGreat

