/- Part of a proof: RouteC HierDp HierDq FarR. -/
import Derived.Test.YtaellcgglldjaaaGreatHq41
import Derived.Test.YtaellcgglldjaaaGreatHq09
import Derived.ScopeJumps
import Derived.WalkMore
import Derived.Test.YtaellcgglldjaaaGreatHq40
import Derived.Test.YtaellcgglldjaaaGreatHq39
import Derived.Test.YtaellcgglldjaaaGreatHq38
set_option linter.all false
set_option linter.unusedVariables false
set_option linter.unusedSimpArgs false
namespace Go.Proofs.YtaellcgglldjaaaGreat
open Go.RowKit
attribute [local go_sem] Oper.semAt_some
structure gN (W H:Int) (l:List Int) (p:List aB):Prop where
 pos:0<p.length
 few:p.length≤100000
 on: ∀k,k<p.length→inB W H (p.getD k (0,0)).1 (p.getD k (0,0)).2=true∧0<l.getD (aC W (p.getD k (0,0))) 0
 side: ∀k,0<k→k<p.length→p.getD k (0,0)∈(cK (p.getD (k-1) (0,0)).1 (p.getD (k-1) (0,0)).2).map (·.2)
theorem aDj {p:List aB} {pre:List (aB×aB)} {x:aB×aB} (h:pre++[x]<+:dP p):pre.length<p.length∧x=(p.getD (pre.length-1) (0,0),p.getD pre.length (0,0)):=by
 obtain⟨r,hr⟩:=h
 have hl:=congrArg List.length hr
 rw[oG]at hl
 simp at hl
 have hk:pre.length<p.length:=by omega
 refine⟨hk,?_⟩
 have h1:(dP p)[pre.length]? =some x:=by
  rw[←hr,List.append_assoc,List.getElem?_append_right (Nat.le_refl _)]
  simp
 simp only[dP,List.getElem?_map,List.getElem?_range hk,Option.map_some,Option.some.injEq]at h1
 exact h1.symm
def aLv (w w4:World) (fb eb:Nat) (W H:Int) (a:Option Addr) (n c:Nat) (T:Nat→Prop) (pre:List (aB×aB)) (W1:World):Prop:=
 (∀k,T k→w4.heap.size≤k)∧Ext w W1∧w4.heap.size≤W1.heap.size∧Blk W1 w.heap.size 26 #[.int .i64 W, .int .i64 H, .slice a n c]∧Blk W1 fb 4 #[.bool (decide (pre=[]))]∧Blk W1 eb 34 #[.int .i64 0]
set_option maxRecDepth 100000 in
set_option maxHeartbeats 4000000 in
theorem sX {w:World} {W H:Int} {a:Option Addr} {l:List Int} (c:Nat) {pa:Option Addr} {p:List aB} (pc:Nat) (hck:aS W H l.length=0) (hr:Row16 w a l) (hc:RowC w pa p) (G:gN W H l p):
  Calls Tryz.prog 26 #[.agg #[.int .i64 W, .int .i64 H, .slice a l.length c], .slice pa p.length pc] w fun e w'=>e= .returned (.int .i64 0)∧Ext w w':=by
 obtain⟨b,off,rfl,hb,hcc⟩:=hc G.pos
 have HC:=aA (show RowC w (some ⟨b,off,none⟩) p from fun _=>⟨b,off,rfl,hb,hcc⟩)
 have HG:=aA G
 have HR:=aA hr
 have wh:=mayB_true.1 (checkE_ok.1 hck).1
 have hlen:=(checkE_ok.1 hck).2
 have HF:=aA (fun w'=>cA W H a l.length c w')
 rw[hck]at HF
 have HI:=aA (fun(x y:Int) w'=>fG W H x y w')
 have hp0:=G.pos
 have hpf:=G.few
 obtain⟨m,hm⟩: ∃z,p.length=z:=⟨_,rfl⟩
 obtain⟨n,hn⟩: ∃z,l.length=z:=⟨_,rfl⟩
 have HMM:=aA hm
 have HNN:=aA hn
 rw[hn]at HF hlen⊢
 rw[hm]at hp0 hpf⊢
 have hm0:((m:Int)==0)=false:=by rw[beq_eq_false_iff_ne];omega
 clear hck hr hc G hcc hm hn
 refine callsIn_wide.1 (callsIn_of_wp_marks (n:=4) Tryz.func26 rfl trivial ((wpIn_wide (n:=4)).2 ?_))
 simp only[Tryz.ntmps26,List.size_toArray,List.length_cons,List.length_nil,Nat.reduceAdd,Nat.reduceSub,Array.replicate_succ,Array.replicate_zero,List.push_toArray,List.append_toArray,List.nil_append,List.cons_append]
 generalize hQ:bodyPostM _ _ _ _ _=Q'
 have HQ:=aA hQ
 clear hQ
 go_wp2_with fail
 apply wp_scope_straight
 go_wp2_with fail
 refine(HF.out _).mono ?_
 rintro e w1 ⟨rfl,hb1⟩
 have B0:Hid (Blk w1 (w.heap.size) 26 #[.int .i64 W, .int .i64 H, .slice a n c]):=aA (by refine Blk.ext ?_ hb1;(repeat' (first|exact Blk.new_ (by simp)|refine Blk.drew ?_|refine Blk.over ?_)))
 have X1:=aA (show Ext w w1 from z_x)
 clear hb1
 go_wp2_with fail
 obtain⟨w2,hw2⟩: ∃z,z=(w1.alloc (.cells #[.bool true] 4)).alloc (.cells #[.int .i64 0] 34):=⟨_,rfl⟩
 have hx2:Ext w1 w2:=by rw[hw2];exact z_x
 have z2:w2.heap.size=w1.heap.size+2:=by rw[hw2];simp
 have C0:=aA (B0.out.ext hx2)
 have CF:=aA (show Blk w2 w1.heap.size 4 #[.bool true] by rw[hw2];exact(Blk.new_ rfl).over)
 have CE:=aA (show Blk w2 (w1.heap.size+1) 34 #[.int .i64 0] by rw[hw2];exact Blk.new_ (by simp))
 have X2:=aA (X1.out.trans hx2)
 have zz1:w.heap.size<w1.heap.size:=B0.out.lt
 rw[←hw2]
 obtain⟨fb,hfb⟩: ∃z,w1.heap.size=z:=⟨_,rfl⟩
 rw[hfb]at z2 CF CE zz1⊢
 clear hw2 hx2 B0 X1 hfb
 have Z2:=aA z2
 clear z2
 go_step3
 go_wp2_with fail
 refine(aB0 _ _ _ _).mono ?_
 rintro e w4 ⟨rfl,hw4⟩
 have h24:Ext w2 w4:=by rw[hw4];exact(Ext.refl _).alloc _
 have z4:w4.heap.size=w2.heap.size+1:=by rw[hw4];simp
 have BP:=aA (show Blk w4 w2.heap.size 37 #[.slice (some ⟨b,off,none⟩) m pc] by rw[hw4];exact Blk.new_ rfl)
 have D0:=aA (C0.out.ext h24)
 have DF:=aA (CF.out.ext h24)
 have DE:=aA (CE.out.ext h24)
 have X4:=aA (X2.out.trans h24)
 clear hw4 h24 C0 CF CE X2
 have Z4:=aA z4
 clear z4
 go_wp2_with fail
 have z2:=Z2.out
 have z4:=Z4.out
 have hseq:=wA (w:=w4) (p:=p) (by rw[HMM.out];omega) (bp:=w2.heap.size) (b:=b) (off:=off) (cc:=pc) (R:=fun k=>k=w2.heap.size∨k=b) (by rw[HMM.out];exact BP.out) (.inl rfl) (.inr rfl) (HC.out.ext X4.out) (fun k hk=>by omega)
 have eg: ∀args w,(callFunc 110 args).run Tryz.prog w= .ok (.enter 110 args) w:=enters_of Tryz.func110 (by kernel_rfl) rfl
 refine(wpIn_wide (n:=4)).1 ?_
 refine aB9 (g:= .tmp 21) (p1:=22) (p2:=23) (b1:=8) (b2:=9) (u:=fun q:aB×aB=> .agg #[.int .i64 q.1.1, .int .i64 q.1.2]) (v:=fun q:aB×aB=> .agg #[.int .i64 q.2.1, .int .i64 q.2.2]) (cs1:=fun q:aB×aB=> #[.int .i64 q.1.1, .int .i64 q.1.2]) (cs2:=fun q:aB×aB=> #[.int .i64 q.2.1, .int .i64 q.2.2]) (t:=28) (gf:=110) rfl eg hseq (fun _=>rfl)
  (aLv w w4 fb (fb+1) W H a n c) (fun k hk=>by omega) ?hO ?hA ?hE ?hS ⟨fun _ h=>h.elim,X4.out,Nat.le_refl _,D0.out,DF.out,DE.out⟩ ?assign ?body ?done
 case hO=>
  rintro T pre W1 W2 ⟨i1,i2,i3,i4,i5,i6⟩ tt
  exact⟨i1,((Touch.of_ext (S:=fun _=>False) i2).after tt (fun k hk h=>by omega)).ext,Nat.le_trans i3 tt.size,i4.touch tt (fun h=>by omega),i5.touch tt (fun h=>by omega),i6.touch tt (fun h=>by omega)⟩
 case hA=>
  rintro T pre W1 o ⟨i1,i2,i3,i4,i5,i6⟩
  exact⟨fun k hk=>hk.elim (i1 k) (fun e=>by omega),i2.alloc _,by simp;omega,i4.over,i5.over,i6.over⟩
 case hE=>
  rintro T pre W1 W2 ⟨i1,i2,i3,i4,i5,i6⟩ e
  exact⟨i1,i2.trans e,Nat.le_trans i3 e.size,i4.ext e,i5.ext e,i6.ext e⟩
 case hS=>
  rintro T pre W1 q u ⟨i1,i2,i3,i4,i5,i6⟩ hq
  have tt:Touch (fun k=>k=q.block) W1 (W1.setCell q u):=(Touch.refl (fun k=>k=q.block) W1).setCell (.inl rfl) u
  have hqb:=i1 _ hq
  exact⟨i1,i2.setCell (by omega) _,Nat.le_trans i3 tt.size,i4.touch tt (fun h=>by omega),i5.touch tt (fun h=>by omega),i6.touch tt (fun h=>by omega)⟩
 case assign=>
  intro q W1 K hK
  clear z2 z4
  simp only[List.setIfInBounds_toArray,List.set_cons_zero,List.set_cons_succ]at hK⊢
  gi_wp2
  exact hK W1.heap.size (W1.heap.size+1) _ z_x ((Blk.new_ rfl).over:Blk ((W1.alloc (.cells #[.int .i64 q.1.1, .int .i64 q.1.2] 28)).alloc (.cells #[.int .i64 q.2.1, .int .i64 q.2.2] 28)) W1.heap.size 28 #[.int .i64 q.1.1, .int .i64 q.1.2]) (Blk.new_ (by simp)) (Nat.le_refl _) (by omega)
 case body=>
  rintro T pre x B1 B2 W1 ⟨i1,i2,i3,i4,i5,i6⟩ hx1 hx2 hz1 hz2' hz2 hpre
  obtain⟨hkl,hxe⟩:=aDj hpre
  obtain⟨k,hk⟩: ∃z,pre.length=z:=⟨_,rfl⟩
  rw[hk]at hkl hxe
  have hon:=HG.out.on k hkl
  have hon1:=HG.out.on (k-1) (by omega)
  have hsd:=HG.out.side k
  have hkm:=hkl
  obtain⟨⟨qx,qy⟩,hq⟩: ∃z,p.getD k (0,0)=z:=⟨_,rfl⟩
  obtain⟨⟨ux,uy⟩,hu⟩: ∃z,p.getD (k-1) (0,0)=z:=⟨_,rfl⟩
  rw[hq]at hxe hon hsd
  rw[hu]at hxe hon1 hsd
  subst hxe
  simp only at hon hon1 hsd hx1 hx2⊢
  have bq:=inB_true.1 hon.1
  have bu:=inB_true.1 hon1.1
  have HD:=aA (fun w'=>aHn (w:=w') ux uy qx qy (by omega) (by omega) (by omega) (by omega))
  have HIN:=aA (fun w'=>HI.out qx qy w')
  rw[hon.1]at HIN
  obtain⟨J,hJ⟩: ∃z,aC W (qx,qy)=z:=⟨_,rfl⟩
  have hi2:=bP (W:=W) (x:=qx) (y:=qy) (by omega) (by omega) (by omega)
  rw[hJ]at hi2 hon
  have m1:=cP (a:=qy) (b:=W) (A:=256) (B:=256) (by omega) (by omega) (by omega) (by omega)
  have kk1:IntKind.i64.wrap (qy*W)=qy*W:=IntWalk.i64_in _ (by omega)
  have kk2:IntKind.i64.wrap (qy*W+qx)=(J:Int):=by rw[hi2];exact IntWalk.i64_in _ (by omega)
  have hJn:J<n:=by
   have m2:=Int.mul_le_mul_of_nonneg_right (show qy≤H-1 by omega) (show 0≤W by omega)
   rw[Int.sub_mul,Int.one_mul,Int.mul_comm H W]at m2
   omega
  obtain⟨ab,ao,rfl,hab,hac⟩:=HR.out (by rw[HNN.out];omega)
  have hJl:J<l.length:=by rw[HNN.out];exact hJn
  have hc2:=hac J hJl
  have hcst:l.getD J 0=l[J]:=by simp[List.getD_eq_getElem?_getD,hJl]
  rw[hcst]at hon
  have hon2:=hon.2
  obtain⟨cst,hcs⟩: ∃z,l[J]=z:=⟨_,rfl⟩
  rw[hcs]at hc2 hon2
  have hcb:(cst==0)=false:=by rw[beq_eq_false_iff_ne];omega
  have jJ:(J:Int)<(n:Int):=by omega
  simp only[List.setIfInBounds_toArray,List.set_cons_zero,List.set_cons_succ]
  have Q1:Hid (Blk W1 B1 28 #[.int .i64 ux, .int .i64 uy]):=aA hx1
  have Q2:Hid (Blk W1 B2 28 #[.int .i64 qx, .int .i64 qy]):=aA hx2
  have I1:=aA i1
  have I2:=aA i2
  have I4:=aA i4
  have I5:=aA i5
  have I6:=aA i6
  have u0:=Q1.out.at 0 rfl;have u1:=Q1.out.at 1 rfl;have uz:=Q1.out.lt
  have v0:=Q2.out.at 0 rfl;have v1:=Q2.out.at 1 rfl;have vz:=Q2.out.lt
  clear hac hJl hcst hon hcs hon2 hi2 m1 hJ hx1 hx2 i1 i2 i4 i5 i6 bq bu hon1 hpre hkl hq hu z2 z4 hseq eg
  by_cases hp:pre=[]
  ·subst hp
   rw[show decide (([]:List (aB×aB))=[])=true from rfl]at I5
   gi_wp2_with (first
   |(refine⟨trivial,?_⟩;gi_at_call 63;refine(callsIn_wide.2 (HD.out _)).mono ?_;rintro e w5 ⟨d,er,rfl,hb5,her⟩;have HER:=aA her;clear her;have Q5:=aA (Q2.out.ext hb5);have F5:=aA (I4.out.ext hb5);have T5:=aA (I5.out.ext hb5);have E5:=aA (I6.out.ext hb5);have v0:=Q5.out.at 0 rfl;have v1:=Q5.out.at 1 rfl;have vz:=Q5.out.lt;have f0:=F5.out.at 0 rfl;have f1:=F5.out.at 1 rfl;have fz:=F5.out.lt;have HB5:=aA hb5;skip;clear hb5)
   |(refine⟨trivial,?_⟩;gi_at_call 55;refine(callsIn_wide.2 (HIN.out _)).mono ?_;rintro e w6 ⟨rfl,hb6⟩;have Q6:=aA (Q5.out.ext hb6);have F6:=aA (F5.out.ext hb6);have T6:=aA (T5.out.ext hb6);have E6:=aA (E5.out.ext hb6);have v0:=Q6.out.at 0 rfl;have v1:=Q6.out.at 1 rfl;have vz:=Q6.out.lt;have f0:=F6.out.at 0 rfl;have f1:=F6.out.at 1 rfl;have f2:=F6.out.at 2 rfl;have fz:=F6.out.lt;have t0:=T6.out.at 0 rfl;have t1:=T6.out.frozen 0;have tz:=T6.out.lt;have HB6:=aA (HB5.out.trans hb6);have y2:=((I2.out.trans HB6.out).cell (p:=⟨ab,ao+J,none⟩) hab).trans hc2;have yz2:=Nat.lt_of_lt_of_le hab (I2.out.trans HB6.out).size;clear hb6))
   have tt:Touch (fun j=>j=fb) w6 (w6.setCell ⟨fb,0,none⟩ (.bool false)):=(Touch.refl (fun j=>j=fb) w6).setCell (p:=⟨fb,0,none⟩) (.inl rfl) _
   have z2:=Z2.out
   have z4:=Z4.out
   have hs6:=HB6.out.size
   refine⟨⟨I1.out,((Touch.of_ext (S:=fun _=>False) (I2.out.trans HB6.out)).after tt (fun k hk h=>by omega)).ext,Nat.le_trans (Nat.le_trans i3 hs6) tt.size,F6.out.touch tt (fun h=>by omega),?_,E6.out.touch tt (fun h=>by omega)⟩,?_⟩
   ·have h1:=T6.out.set_ 0 (.bool false)
    simpa using h1
   ·exact(Touch.of_ext HB6.out).trans (tt.mono (fun k hk h=>⟨fun hT=>by have:=I1.out k hT;omega,by omega,by omega,by omega⟩))
  ·rw[decide_eq_false hp]at I5
   have hk0:0<k:=by rw[←hk];exact List.length_pos_iff.2 hp
   have HSD:=aA (hsd hk0 hkm)
   gi_wp2_with (first
   |(refine⟨trivial,?_⟩;gi_at_call 63;refine(callsIn_wide.2 (HD.out _)).mono ?_;rintro e w5 ⟨d,er,rfl,hb5,her⟩;have HER:=aA her;clear her;have Q5:=aA (Q2.out.ext hb5);have F5:=aA (I4.out.ext hb5);have T5:=aA (I5.out.ext hb5);have E5:=aA (I6.out.ext hb5);have v0:=Q5.out.at 0 rfl;have v1:=Q5.out.at 1 rfl;have vz:=Q5.out.lt;have f0:=F5.out.at 0 rfl;have f1:=F5.out.at 1 rfl;have fz:=F5.out.lt;have HB5:=aA hb5;(have her0:=HER.out HSD.out;subst her0);clear hb5)
   |(refine⟨trivial,?_⟩;gi_at_call 55;refine(callsIn_wide.2 (HIN.out _)).mono ?_;rintro e w6 ⟨rfl,hb6⟩;have Q6:=aA (Q5.out.ext hb6);have F6:=aA (F5.out.ext hb6);have T6:=aA (T5.out.ext hb6);have E6:=aA (E5.out.ext hb6);have v0:=Q6.out.at 0 rfl;have v1:=Q6.out.at 1 rfl;have vz:=Q6.out.lt;have f0:=F6.out.at 0 rfl;have f1:=F6.out.at 1 rfl;have f2:=F6.out.at 2 rfl;have fz:=F6.out.lt;have t0:=T6.out.at 0 rfl;have t1:=T6.out.frozen 0;have tz:=T6.out.lt;have HB6:=aA (HB5.out.trans hb6);have y2:=((I2.out.trans HB6.out).cell (p:=⟨ab,ao+J,none⟩) hab).trans hc2;have yz2:=Nat.lt_of_lt_of_le hab (I2.out.trans HB6.out).size;clear hb6))
   have tt:Touch (fun j=>j=fb) w6 (w6.setCell ⟨fb,0,none⟩ (.bool false)):=(Touch.refl (fun j=>j=fb) w6).setCell (p:=⟨fb,0,none⟩) (.inl rfl) _
   have z2:=Z2.out
   have z4:=Z4.out
   have hs6:=HB6.out.size
   refine⟨⟨I1.out,((Touch.of_ext (S:=fun _=>False) (I2.out.trans HB6.out)).after tt (fun k hk h=>by omega)).ext,Nat.le_trans (Nat.le_trans i3 hs6) tt.size,F6.out.touch tt (fun h=>by omega),?_,E6.out.touch tt (fun h=>by omega)⟩,?_⟩
   ·have h1:=T6.out.set_ 0 (.bool false)
    simpa using h1
   ·exact(Touch.of_ext HB6.out).trans (tt.mono (fun k hk h=>⟨fun hT=>by have:=I1.out k hT;omega,by omega,by omega,by omega⟩))
 case done=>
  rintro T W1 ⟨i1,i2,i3,i4,i5,i6⟩ hD
  dsimp only
  have I2:=aA i2
  have ID:=aA hD
  have s0:=i6.at 0 rfl
  have sz:=i6.lt
  clear z2 z4 i1 i2 i4 i5 i6 hD
  go_wp2_with fail
  show Q' _ _ _
  rw[←HQ.out]
  refine⟨by simp, .inl ⟨_,_,rfl,run_takeDeferred ID.out,?_⟩⟩
  have t6:Touch (fun j=>j=w4.heap.size) W1 (W1.putObj w4.heap.size (.deferred none)):=bC _ _
  refine⟨.int .i64 0,by simp[results,Tryz.results26,go_sem],?_⟩
  have z2:=Z2.out
  have z4:=Z4.out
  exact⟨rfl,((Touch.of_ext (S:=fun _=>False) I2.out).after t6 (fun k hk e=>by omega)).ext⟩
end Go.Proofs.YtaellcgglldjaaaGreat

namespace Go.Proofs.YtaellcgglldjaaaGreat
open Go.RowKit
section
variable {W H s:Int} {l:List Int}
theorem wT (g:Good W H s l) {a b:aB} (ha:inB W H a.1 a.2=true) (hb:inB W H b.1 b.2=true) (h:aC W a∈(aZ g).adj (aC W b)):jN a b:=by
 have b2:=inB_true.1 hb
 obtain⟨p,hp,hpu⟩:=List.mem_map.1 (show aC W a∈(nbC (aY l W 0 0 W H) (vx W (aC W b)) (vy W (aC W b)) 4).map (aC W) from(k_adj.1 h).1)
 obtain⟨k,hk,hop,rfl⟩:=mem_nbC.1 hp
 obtain⟨x,y⟩:=b
 simp only at b2
 rw[cQ (by omega) (by omega) (by omega),cR (by omega) (by omega) (by omega)]at hpu hop
 have hin:=(bF g).in_ (cC hop).1
 exact⟨k,hk,(tR (W:=W) (H:=H) (inB_true.2 (by simp only;omega)) ha hpu).symm⟩
theorem aBr (g:Good W H s l): ∀(q:List aB) (a:aB),inB W H a.1 a.2=true→0<aH l W a→dR g a q→ ∀b∈a::q,inB W H b.1 b.2=true∧0<aH l W b
 |[],a,ha,oa,_,b,hb=>by
  obtain rfl:=List.mem_singleton.1 hb
  exact⟨ha,oa⟩
 |c::q,a,ha,oa,hg,b,hb=>by
  rcases List.mem_cons.1 hb with rfl|hb
  ·exact⟨ha,oa⟩
  ·exact aBr g q c hg.1.1 hg.1.2.1 hg.2 b hb
theorem uV (g:Good W H s l): ∀(q:List aB) (a:aB),inB W H a.1 a.2=true→dR g a q→ ∀(k:Nat) (x y:aB),(a::q)[k]? =some x→(a::q)[k+1]? =some y→jN x y
 |[],a,_,_,k,x,y,_,h2=>by simp at h2
 |c::q,a,ha,hg,0,x,y,h1,h2=>by
  simp only[List.getElem?_cons_zero,Option.some.injEq]at h1
  subst h1
  simp only[List.getElem?_cons_succ,List.getElem?_cons_zero,Option.some.injEq]at h2
  subst h2
  exact wT g ha hg.1.1 hg.1.2.2
 |c::q,a,ha,hg,k+1,x,y,h1,h2=>by
  rw[List.getElem?_cons_succ]at h1 h2
  exact uV g q c hg.1.1 hg.2 k x y h1 h2
end
end Go.Proofs.YtaellcgglldjaaaGreat

namespace Go.Proofs.YtaellcgglldjaaaGreat
open Go.RowKit
section
variable {W H s:Int} {l:List Int}
theorem aBu (g:Good W H s l) {f:aB} {q:List aB} (hf:inB W H f.1 f.2=true) (of:0<aH l W f) (hg:dR g f q) (hn:(f::q).length≤100000):gN W H l (f::q):=by
 have hi:=aBr g q f hf of hg
 have hs:=uV g q f hf hg
 refine⟨by simp,hn,fun k hk=> ?_,fun k h0 hk=> ?_⟩
 ·have hm:=hi _ (List.getElem_mem hk)
  rw[List.getD_eq_getElem?_getD,List.getElem?_eq_getElem hk,Option.getD_some]
  exact hm
 ·obtain⟨j,rfl⟩: ∃j,k=j+1:=⟨k-1,by omega⟩
  have hj:j<(f::q).length:=by omega
  obtain⟨d,hd,e⟩:=kG (hs j _ _ (List.getElem?_eq_getElem hj) (List.getElem?_eq_getElem hk))
  rw[List.getD_eq_getElem?_getD,List.getD_eq_getElem?_getD,Nat.add_sub_cancel,List.getElem?_eq_getElem hk,List.getElem?_eq_getElem hj,Option.getD_some,Option.getD_some,e]
  exact List.mem_map.2 ⟨((d:Int),_),List.mem_iff_getElem?.2 ⟨d,xT _ _ hd⟩,rfl⟩
theorem aK2 (g:Good W H s l) (hl:l.length≤150) {f t:aB} {p:List aB} {c k e:Int} (h:HSrch W H s l f t l.length p c k e) {p':List Nat} {c' k' e':Int} (h':Srch W H l f.1 f.2 t.1 t.2 l.length p' c' k' e'):
  e=e'∧((e≠0∧p=[]∧c=0)∨(e=0∧inB W H f.1 f.2=true∧inB W H t.1 t.2=true∧c'≤c∧gN W H l p∧1≤k∧k≤l.length∧(f≠t→2≤k)∧ ∀(L:cT W H s (ofN W s f.1 f.2) l) (D:Nat→Int),IsFar (aF L) (aC W f) D→c≤D (aC W t))):=by
 by_cases hin:inB W H f.1 f.2=true∧inB W H t.1 t.2=true
 ·obtain⟨hf,ht⟩:=hin
  obtain⟨D,F⟩:=kX (aZ g) (aC W f)
  obtain⟨E,FE⟩:=kX (aF (bF g)) (aC W f)
  have hE:=IsFar.sub_le (aLq g) F FE (aC W t)
  have hE0:=FE.nn (aC W t)
  have hst:(e'=0∧c'=E (aC W t)∧E (aC W t)<aE)∨(e'=22∧ ¬D (aC W t)<aE):=by
   rcases h' with⟨n1,_⟩|⟨_,L',sN⟩
   ·exact absurd (findE_ok.2 ⟨g.ok,hf,ht,by omega⟩) n1
   ·have hen:=(sN.ends (aLr L' (aC W t)) FE)
    rcases hen.2.2 with⟨rfl,_,fo⟩|⟨rfl,_,_,hw⟩|⟨_,_,_,_,hlt⟩
    ·exact .inl ⟨rfl,fo.cost,fo.fin⟩
    ·refine .inr ⟨rfl,fun hlt=> ?_⟩
     rcases hw with hw|hw
     ·exact hw ⟨(F.way_of hlt).ends.1,F.open_ hlt⟩
     ·have:=hw.2
      omega
    ·exfalso
     have:(aF L').n=l.length:=rfl
     omega
  rcases yE g hl hf ht F h with⟨hn,rfl,rfl,rfl⟩|⟨hd,rfl,hc,⟨q,rfl,hq,_,_⟩,of,k1,k2,k3⟩
  ·rcases hst with⟨_,_,hlt⟩|⟨rfl,_⟩
   ·exact absurd (aG0 g hl F FE (E (aC W t)).toNat _ (by omega) hlt) hn
   ·exact⟨rfl, .inl ⟨by decide,rfl,rfl⟩⟩
  ·rcases hst with⟨rfl,rfl,_⟩|⟨_,hn⟩
   ·refine⟨rfl, .inr ⟨rfl,hf,ht,by omega,aBu g hf of hq (by have:=sF h;omega),k1,k2,k3,fun L D' F'=> ?_⟩⟩
    rw[hc]
    exact IsFar.sub_le (tM g (dE g.right hf) L) F' F _
   ·exact absurd hd hn
 ·rcases h with⟨_,rfl,rfl,_,rfl⟩|⟨h1,_⟩|⟨h1,_⟩|⟨h1,_⟩
  ·rcases h' with⟨_,_,_,_,he⟩|⟨h1,_⟩
   ·have:dH W H l.length f.1 f.2 t.1 t.2 (l.length:Nat)=10:=by
     unfold dH
     rw[if_pos g.ok,if_neg hin]
    rw[this]at he
    exact⟨he.symm, .inl ⟨by decide,rfl,rfl⟩⟩
   ·obtain⟨_,a,b,_⟩:=findE_ok.1 h1
    exact absurd ⟨a,b⟩ hin
  ·exact absurd h1 hin
  ·exact absurd h1 hin
  ·exact absurd h1 hin
end
end Go.Proofs.YtaellcgglldjaaaGreat

namespace Go.Proofs.YtaellcgglldjaaaGreat
open Go.RowKit
theorem aIr {k:Nat} (hk:k<4) (x y:Int):tD x (k:Int)=x+aQ k∧tE y (k:Int)=y+aR k:=by
 obtain rfl|rfl|rfl|rfl:k=0∨k=1∨k=2∨k=3:=by omega
 all_goals (constructor<;>simp[tD,tE,aQ,aR]<;>omega)
section
variable (l:List Int) (W bx byy bw bh:Int)
def relD (far:Nat→Int) (x y:Int) (k:Nat):Nat→Int:=
 if bL bx byy bw bh (x+aQ k) (y+aR k)=true∧far (aC W (x+aQ k,y+aR k))≠aE∧far (aC W (x+aQ k,y+aR k))+aH l W (x,y)<far (aC W (x,y)) then
  bG far (aC W (x,y)) (far (aC W (x+aQ k,y+aR k))+aH l W (x,y)) else far
def pE (far:Nat→Int) (x y:Int):Nat→Nat→Int
 |0=>far
 |k+1=>relD l W bx byy bw bh (pE far x y k) x y k
def jB (far:Nat→Int) (x y:Int):Nat→Int:=if aH l W (x,y)=0 then far else pE l W bx byy bw bh far x y 4
def tX (far:Nat→Int) (y:Int):Nat→Nat→Int
 |0=>far
 |m+1=>jB l W bx byy bw bh (tX far y m) (bx+m) y
def tV (far:Nat→Int):Nat→Nat→Int
 |0=>far
 |m+1=>tX l W bx byy bw bh (tV far m) (byy+m) bw.toNat
end
section
variable {l:List Int} {W H bx byy bw bh:Int}
theorem aC2 (far:Nat→Int) (x y:Int) (k v:Nat):relD l W bx byy bw bh far x y k v≤far v:=by
 unfold relD
 split
 ·next h=>
  unfold bG
  split
  ·next e=>subst e;omega
  ·exact Int.le_refl _
 ·exact Int.le_refl _
theorem pZ (far:Nat→Int) (x y:Int) (v:Nat): ∀k,pE l W bx byy bw bh far x y k v≤far v
 |0=>Int.le_refl _
 |k+1=>Int.le_trans (aC2 _ x y k v) (pZ far x y v k)
theorem sS (far:Nat→Int) (x y:Int) (v:Nat):jB l W bx byy bw bh far x y v≤far v:=by
 unfold jB
 split
 ·exact Int.le_refl _
 ·exact pZ far x y v 4
theorem nH (far:Nat→Int) (y:Int) (v:Nat): ∀m,tX l W bx byy bw bh far y m v≤far v
 |0=>Int.le_refl _
 |m+1=>Int.le_trans (sS _ _ y v) (nH far y v m)
theorem nG (far:Nat→Int) (v:Nat): ∀m,tV l W bx byy bw bh far m v≤far v
 |0=>Int.le_refl _
 |m+1=>Int.le_trans (nH _ _ v _) (nG far v m)
def dK (D far:Nat→Int):Prop:= ∀v,D v≤far v
theorem aIf (L:LandP W H l bx byy bw bh) {s:Nat} {D:Nat→Int} (F:IsFar (aF L) s D) {far:Nat→Int} (h:dK D far) {x y:Int} (hb:bL bx byy bw bh x y=true) (h0:0<aH l W (x,y)) {k:Nat} (hk:k<4) (hle: ∀v,far v≤aE):dK D (relD l W bx byy bw bh far x y k):=by
 intro v
 unfold relD
 split
 ·next hc=>
  unfold bG
  split
  ·next e=>
   subst e
   obtain⟨c1,c2,c3⟩:=hc
   have hin:=L.in_ hb
   have huI:=L.in_ c1
   have ho:aY l W bx byy bw bh x y=true:=by unfold aY;rw[hb,decide_eq_true h0];rfl
   have hov:(aF L).op (aC W (x,y))=true:=by
    show opV _ _ _ _=true
    rw[L.opV_idx hin];exact ho
   have hu:=h (aC W (x+aQ k,y+aR k))
   have hfu:=hle (aC W (x+aQ k,y+aR k))
   have hfv:=hle (aC W (x,y))
   have hou:=F.open_ (v:=aC W (x+aQ k,y+aR k)) (by omega)
   have hco:(aF L).cost (aC W (x,y))=aH l W (x,y):=rfl
   by_cases hs:aC W (x,y)=s
   ·rw[←hs]at F
    rw[F.start hov]
    have:=F.nn (aC W (x+aQ k,y+aR k))
    omega
   ·have hadj:aC W (x+aQ k,y+aR k)∈(aF L).adj (aC W (x,y)):=by
     refine List.mem_map.2 ⟨(x+aQ k,y+aR k),?_,rfl⟩
     rw[cQ hin.1 hin.2.1 hin.2.2.1,cR hin.1 hin.2.1 hin.2.2.1]
     refine mem_nbC.2 ⟨k,hk,?_,rfl⟩
     have:opV (aY l W bx byy bw bh) W l.length (aC W (x+aQ k,y+aR k))=true:=hou
     rw[L.opV_idx huI]at this
     exact this
    have:=F.near _ hov hs _ hadj hou (by rw[hco];omega)
    rw[hco]at this
    omega
  ·exact h v
 ·exact h v
theorem yZ (L:LandP W H l bx byy bw bh) {s:Nat} {D:Nat→Int} (F:IsFar (aF L) s D) {far:Nat→Int} (h:dK D far) {x y:Int} (hb:bL bx byy bw bh x y=true) (h0:0<aH l W (x,y)) (hle: ∀v,far v≤aE): ∀k,k≤4→dK D (pE l W bx byy bw bh far x y k)
 |0,_=>h
 |k+1,hk=>aIf L F (yZ L F h hb h0 hle k (by omega)) hb h0 (by omega) (fun v=>Int.le_trans (pZ far x y v k) (hle v))
theorem aAy (L:LandP W H l bx byy bw bh) {s:Nat} {D:Nat→Int} (F:IsFar (aF L) s D) {far:Nat→Int} (h:dK D far) {x y:Int} (hb:bL bx byy bw bh x y=true) (hle: ∀v,far v≤aE):dK D (jB l W bx byy bw bh far x y):=by
 unfold jB
 split
 ·exact h
 ·have:=(bI L.u16 W (x,y)).1
  exact yZ L F h hb (by omega) hle 4 (Nat.le_refl _)
theorem aH7 {m j:Nat} (hm:(m:Int)<bw) (hj:(j:Int)<bh):bL bx byy bw bh (bx+m) (byy+j)=true:=hasB_true.2 (by omega)
theorem zA (L:LandP W H l bx byy bw bh) {s:Nat} {D:Nat→Int} (F:IsFar (aF L) s D) {far:Nat→Int} (h:dK D far) {j:Nat} (hj:(j:Int)<bh) (hle: ∀v,far v≤aE): ∀m:Nat,(m:Int)≤bw→dK D (tX l W bx byy bw bh far (byy+j) m)
 |0,_=>h
 |m+1,hm=>aAy L F (zA L F h hj hle m (by omega)) (aH7 (by omega) hj) (fun v=>Int.le_trans (nH far _ v m) (hle v))
theorem rJ (L:LandP W H l bx byy bw bh) {s:Nat} {D:Nat→Int} (F:IsFar (aF L) s D) {far:Nat→Int} (h:dK D far) (hle: ∀v,far v≤aE): ∀m:Nat,(m:Int)≤bh→dK D (tV l W bx byy bw bh far m)
 |0,_=>h
 |m+1,hm=>zA L F (rJ L F h hle m (by omega)) (by omega) (fun v=>Int.le_trans (nG far v m) (hle v)) _ (by have:=(fitsR_true.1 L.fits);omega)
theorem vJ (far:Nat→Int) (x y:Int) {k:Nat} (hb:bL bx byy bw bh (x+aQ k) (y+aR k)=true) (hu:far (aC W (x+aQ k,y+aR k))<aE): ∀n,k<n→pE l W bx byy bw bh far x y n (aC W (x,y))≤far (aC W (x+aQ k,y+aR k))+aH l W (x,y)
 |n+1,hk=>by
  by_cases e:k=n
  ·subst e
   have h1:=pZ (l:=l) (W:=W) (bx:=bx) (byy:=byy) (bw:=bw) (bh:=bh) far x y (aC W (x+aQ k,y+aR k)) k
   show relD l W bx byy bw bh (pE l W bx byy bw bh far x y k) x y k _≤_
   unfold relD
   split
   ·rw[bU];omega
   ·next hn=>
    have: ¬(pE l W bx byy bw bh far x y k (aC W (x+aQ k,y+aR k))+aH l W (x,y)<pE l W bx byy bw bh far x y k (aC W (x,y))):=fun hlt=>hn ⟨hb,by omega,hlt⟩
    omega
  ·exact Int.le_trans (aC2 _ x y n _) (vJ far x y hb hu n (by omega))
theorem vK (far:Nat→Int) (y:Int) {j k:Nat} (hk:k<4) (hc:aH l W (bx+j,y)≠0) (hb:bL bx byy bw bh (bx+j+aQ k) (y+aR k)=true) (hu:far (aC W (bx+j+aQ k,y+aR k))<aE): ∀m,j<m→tX l W bx byy bw bh far y m (aC W (bx+j,y))≤far (aC W (bx+j+aQ k,y+aR k))+aH l W (bx+j,y)
 |m+1,hm=>by
  by_cases e:j=m
  ·subst e
   have h1:=nH (l:=l) (W:=W) (bx:=bx) (byy:=byy) (bw:=bw) (bh:=bh) far y (aC W (bx+j+aQ k,y+aR k)) j
   show jB l W bx byy bw bh (tX l W bx byy bw bh far y j) (bx+j) y _≤_
   unfold jB
   rw[if_neg hc]
   exact Int.le_trans (vJ _ _ _ hb (by omega) 4 hk) (by omega)
  ·exact Int.le_trans (sS _ _ y _) (vK far y hk hc hb hu m (by omega))
theorem vI (far:Nat→Int) {i j k:Nat} (hk:k<4) (hi:(i:Int)<bw) (hc:aH l W (bx+i,byy+j)≠0) (hb:bL bx byy bw bh (bx+i+aQ k) (byy+j+aR k)=true) (hu:far (aC W (bx+i+aQ k,byy+j+aR k))<aE): ∀m,j<m→tV l W bx byy bw bh far m (aC W (bx+i,byy+j))≤far (aC W (bx+i+aQ k,byy+j+aR k))+aH l W (bx+i,byy+j)
 |m+1,hm=>by
  by_cases e:j=m
  ·subst e
   have h1:=nG (l:=l) (W:=W) (bx:=bx) (byy:=byy) (bw:=bw) (bh:=bh) far (aC W (bx+i+aQ k,byy+j+aR k)) j
   exact Int.le_trans (vK _ _ hk hc hb (by omega) bw.toNat (by omega)) (by omega)
  ·exact Int.le_trans (nH _ _ _ _) (vI far hk hi hc hb hu m (by omega))
def rnd (l:List Int) (W bx byy bw bh:Int) (far:Nat→Int):Nat→Int:=tV l W bx byy bw bh far bh.toNat
theorem aIi (L:LandP W H l bx byy bw bh) (far:Nat→Int) {u v:Nat} (hv:(aF L).op v=true) (hu:u∈(aF L).adj v) (hf:far u<aE):rnd l W bx byy bw bh far v≤far u+(aF L).cost v:=by
 obtain⟨p,hp,rfl⟩:=List.mem_map.1 hu
 obtain⟨k,hk,ho,rfl⟩:=mem_nbC.1 hp
 have hvl:=(aF L).lt v hv
 have hv':opV (aY l W bx byy bw bh) W l.length v=true:=hv
 unfold opV at hv'
 simp only[Bool.and_eq_true]at hv'
 have h1:=cC hv'.2
 have h2:=hasB_true.1 h1.1
 have hkb:=(cC ho).1
 obtain⟨i,hi⟩: ∃i:Nat,vx W v=bx+i:=⟨(vx W v-bx).toNat,by omega⟩
 obtain⟨j,hj⟩: ∃j:Nat,vy W v=byy+j:=⟨(vy W v-byy).toNat,by omega⟩
 have hid:=dZ L.wh.1 v
 have hco:(aF L).cost v=aH l W (bx+i,byy+j):=by
  rw[lG,←hi,←hj,hid];rfl
 rw[hco]
 rw[hi,hj]at hf hkb h1 hid⊢
 have:=vI (l:=l) (W:=W) (bx:=bx) (byy:=byy) (bw:=bw) (bh:=bh) far (i:=i) (j:=j) hk (by omega) (by omega) hkb hf bh.toNat (by omega)
 rw[hid]at this
 exact this
theorem qX {α:Type} {p q:α→Bool}: ∀{l:List α},(∀a∈l,p a=true→q a=true)→(∃a∈l,q a=true∧p a=false)→l.countP p<l.countP q
 |[],_,⟨a,h,_⟩=>by cases h
 |b::l,hpq,⟨a,ha,hq,hp⟩=>by
  rw[List.countP_cons,List.countP_cons]
  have hmono:l.countP p≤l.countP q:=List.countP_mono_left fun x hx=>hpq x (List.mem_cons_of_mem _ hx)
  by_cases hab:a=b
  ·subst hab
   rw[hq,hp];simp;omega
  ·have hal:a∈l:=by
    rcases List.mem_cons.1 ha with h|h
    ·exact absurd h hab
    ·exact h
   have:=qX (fun x hx=>hpq x (List.mem_cons_of_mem _ hx)) ⟨a,hal,hq,hp⟩
   have hb:=hpq b List.mem_cons_self
   cases h:p b
   ·split<;>split<;>simp_all<;>omega
   ·rw[hb h];simp;omega
def kF (n:Nat) (D far:Nat→Int):Nat:=(List.range n).countP fun v=>decide (far v=D v)
theorem aG6 (n:Nat) (D far:Nat→Int):kF n D far≤n:=by
 have:=List.countP_le_length (p:=fun v=>decide (far v=D v)) (l:=List.range n)
 rw[List.length_range]at this
 exact this
theorem aG9 (L:LandP W H l bx byy bw bh) {s:Nat} {D:Nat→Int} (F:IsFar (aF L) s D) {far:Nat→Int} (h:dK D far) (hle: ∀v,far v≤aE) (hs:far s=D s) (hne: ∃v,far v≠D v):kF l.length D far<kF l.length D (rnd l W bx byy bw bh far):=by
 have hfin: ∀v,far v≠D v→D v<aE:=fun v hv=>by
  have h1:=h v
  have h2:=hle v
  omega
 have hlow:dK D (rnd l W bx byy bw bh far):=rJ L F h hle _ (by have:=(fitsR_true.1 L.fits);omega)
 obtain⟨v,hv,hmin⟩: ∃v,far v≠D v∧ ∀u,far u≠D u→D v≤D u:=by
  obtain⟨v0,h0⟩:=hne
  have: ∀k:Nat,∀v,far v≠D v→D v=(k:Int)→ ∃v,far v≠D v∧ ∀u,far u≠D u→D v≤D u:=by
   intro k
   induction k using Nat.strongRecOn with
   |_ k ih=>
    intro v hv hk
    by_cases hex: ∃u,far u≠D u∧D u<D v
    ·obtain⟨u,hu,hlt⟩:=hex
     exact ih (D u).toNat (by have:=F.nn u;omega) u hu (by have:=F.nn u;omega)
    ·exact⟨v,hv,fun u hu=>Int.not_lt.1 fun hlt=>hex ⟨u,hu,hlt⟩⟩
  exact this (D v0).toNat v0 h0 (by have:=F.nn v0;omega)
 have hvf:=hfin v hv
 have hov:=F.open_ hvf
 have hvs:v≠s:=fun e=>hv (e▸hs)
 obtain⟨u,hu,huo,he⟩:=F.from_ v hov hvs hvf
 have hc:=(aF L).pos v hov
 have huR:far u=D u:=by
  by_cases e:far u=D u
  ·exact e
  ·have:=hmin u e
   omega
 have hn:=aIi L far hov hu (by omega)
 have hlt:v<l.length:=(aF L).lt v hov
 refine qX (fun x _ hx=> ?_) ⟨v,List.mem_range.2 hlt,?_,by simpa using hv⟩
 ·simp only[decide_eq_true_eq]at hx⊢
  have h1:=nG (l:=l) (W:=W) (bx:=bx) (byy:=byy) (bw:=bw) (bh:=bh) far x bh.toNat
  have h2:=hlow x
  show tV l W bx byy bw bh far bh.toNat x=D x
  unfold rnd at h2
  omega
 ·simp only[decide_eq_true_eq]
  have h2:=hlow v
  omega
structure Rnds (D far:Nat→Int) (s n r:Nat):Prop where
 low:dK D far
 le: ∀v,far v≤aE
 at_:far s=D s
 many:(∀v,far v=D v)∨r+1≤kF n D far
theorem Rnds.start (L:LandP W H l bx byy bw bh) {s:Nat} {D:Nat→Int} (F:IsFar (aF L) s D) (ho:(aF L).op s=true):Rnds D (bG (fun _=>aE) s 0) s l.length 0 where
 low v:=by
  unfold bG
  split
  ·next e=>subst e;rw[F.start ho];exact Int.le_refl _
  ·exact F.le v
 le v:=by
  unfold bG
  split
  ·decide
  ·exact Int.le_refl _
 at_:=by rw[bU,F.start ho]
 many:=by
  right
  have:0<kF l.length D (bG (fun _=>aE) s 0):=by
   refine List.countP_pos_iff.2 ⟨s,List.mem_range.2 ((aF L).lt s ho),?_⟩
   rw[bU,F.start ho];rfl
  omega
theorem Rnds.next (L:LandP W H l bx byy bw bh) {s r:Nat} {D far:Nat→Int} (F:IsFar (aF L) s D) (h:Rnds D far s l.length r):Rnds D (rnd l W bx byy bw bh far) s l.length (r+1):=by
 have hbh:=(fitsR_true.1 L.fits)
 have hlow:dK D (rnd l W bx byy bw bh far):=rJ L F h.low h.le _ (by omega)
 have hle: ∀v,rnd l W bx byy bw bh far v≤far v:=fun v=>nG far v _
 refine⟨hlow,fun v=>Int.le_trans (hle v) (h.le v),?_,?_⟩
 ·have h1:=hle s
  have h2:=hlow s
  have:=h.at_
  omega
 ·by_cases hd: ∀v,far v=D v
  ·left
   intro v
   have h1:=hle v
   have h2:=hlow v
   have:=hd v
   omega
  ·right
   have hne: ∃v,far v≠D v:=by simpa using hd
   have:=aG9 L F h.low h.le h.at_ hne
   rcases h.many with hm|hm
   ·exact absurd hm hd
   ·omega
theorem Rnds.full {s n:Nat} {D far:Nat→Int} (h:Rnds D far s n n): ∀v,far v=D v:=by
 rcases h.many with hm|hm
 ·exact hm
 ·have:=aG6 n D far
  omega
def BdT (T:Nat) (far:Nat→Int):Prop:= ∀v,0≤far v∧far v≤aE∧(far v<aE→far v≤65535*(T:Int))
theorem BdT.mono {T T':Nat} {far:Nat→Int} (h:BdT T far) (ht:T≤T'):BdT T' far:=fun v=>⟨(h v).1,(h v).2.1,fun hv=>by have:=(h v).2.2 hv;omega⟩
theorem BdT.relD (hu:cS l) {T:Nat} {far:Nat→Int} (h:BdT T far) (ht:T<100000000000) (x y:Int) (k:Nat):BdT (T+1) (relD l W bx byy bw bh far x y k):=by
 intro v
 have hc:=bI hu W (x,y)
 unfold Go.Proofs.YtaellcgglldjaaaGreat.relD
 split
 ·next hk=>
  unfold bG
  split
  ·have h1:=h (aC W (x+aQ k,y+aR k))
   have h2:=h1.2.2 (by omega)
   have e:aE=18446744073709551615:=rfl
   refine⟨by omega,by omega,fun _=>by omega⟩
  ·exact(h.mono (Nat.le_succ T)) v
 ·exact(h.mono (Nat.le_succ T)) v
theorem BdT.sum (hu:cS l) {T:Nat} {far:Nat→Int} (h:BdT T far) (ht:T<100000000000) {u:Nat} (hf:far u≠aE) (x y:Int):far u+aH l W (x,y)<18446744073709551616:=by
 have hc:=bI hu W (x,y)
 have h1:=h u
 have h2:=h1.2.2 (by omega)
 omega
end
end Go.Proofs.YtaellcgglldjaaaGreat

