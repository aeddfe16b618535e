/- Part of a proof: FloodH HierJ. -/
import Derived.Test.YtaellcgglldjaaaGreatHierFindsQ42
import Derived.Test.YtaellcgglldjaaaGreatHierFindsQ01
import Derived.RangeFuncBox
import Derived.OwnWalkIn
import Derived.TacticsInMore
set_option linter.all false
set_option linter.unusedVariables false
set_option linter.unusedSimpArgs false
namespace Go.Proofs.YtaellcgglldjaaaGreat
open Go.RowKit
attribute [local go_sem] Oper.semAt_some
theorem aG2 (W H:Int) (a:Option Addr) (n c:Nat) (bx byy bw bh x y:Int) (g m cg:Nat) (w:World):
  Calls Tryz.prog 70 #[.agg #[.int .i64 W, .int .i64 H, .slice a n c, .int .i64 bx, .int .i64 byy, .int .i64 bw, .int .i64 bh], .slice (some ⟨g,0,none⟩) m cg, .agg #[.int .i64 x, .int .i64 y]] w fun e w'=>e= .returned (.func (.func 121) #[] #[.pointer (some ⟨w.heap.size+2,0,none⟩), .pointer (some ⟨w.heap.size+1,0,none⟩), .pointer (some ⟨w.heap.size,0,none⟩)])∧
   w'=((w.alloc (.cells #[.int .i64 W, .int .i64 H, .slice a n c, .int .i64 bx, .int .i64 byy, .int .i64 bw, .int .i64 bh] 147)).alloc (.cells #[.slice (some ⟨g,0,none⟩) m cg] 78)).alloc (.cells #[.int .i64 x, .int .i64 y] 28):=by
 go_enter Tryz.func70,Tryz.ntmps70
 go_wp2
 go_ret
 exact⟨rfl,rfl⟩
set_option maxRecDepth 100000 in
set_option maxHeartbeats 1000000 in
theorem aIv {w:World} {W H:Int} {a:Option Addr} {l:List Int} {bx byy bw bh x y:Int} (c:Nat) (tx ty:Int) (he:eA W H l.length bx byy bw bh x y=0) (hr:Row16 w a l) (hu:cV l) (ht:bO bx byy bw bh tx ty=true):
  Calls Tryz.prog 28 #[.agg #[.int .i64 W, .int .i64 H, .slice a l.length c], .agg #[.int .i64 bx, .int .i64 byy, .int .i64 bw, .int .i64 bh], .agg #[.int .i64 x, .int .i64 y], .agg #[.int .i64 tx, .int .i64 ty]] w fun e w'=>
   ∃far,IsFar (aE (bK he hu)) (aC W (x,y)) far∧fT (aE (bK he hu)) far∧Ext w w'∧
    ((far (aC W (tx,ty))=aJ∧e= .returned (.tuple #[.slice none 0 0, .int .u64 0, .int .i64 22]))∨
     (far (aC W (tx,ty))<aJ∧ ∃v p,e= .returned (.tuple #[v, .int .u64 (far (aC W (tx,ty))), .int .i64 0])∧BackP (aE (bK he hu)) far (aC W (tx,ty)) p∧Own cellE w' w.heap.size 28 v (p.map (aG W)).reverse)):=by
 have HLk:=aA (fun(w':World)=>yR (w:=w') W H a l.length c bx byy bw bh x y he)
 have HH:=aA (fun w'=>sF bx byy bw bh tx ty w')
 obtain⟨hm,hl,hf,hh⟩:=lookE_ok.1 he
 rw[uP hm hf,ht]at HH
 have L:=aD3 he hr hu
 have hin:=L.plain.in_ ht
 have HIN:=aA hin
 obtain⟨G,hG⟩: ∃G,aE (bK he hu)=G:=⟨_,rfl⟩
 have HG:Hid (aE L.plain=G):=aA hG
 have HF:=aA (fun(w':World) (hx:Ext w w')=>(by have:=tE (L.ext hx) c x y hh;rw[hG]at this;exact this:Calls Tryz.prog 68 #[.agg #[.int .i64 W, .int .i64 H, .slice a l.length c, .int .i64 bx, .int .i64 byy, .int .i64 bw, .int .i64 bh], .agg #[.int .i64 x, .int .i64 y]] w' fun e w''=>
   ∃v far,e= .returned v∧Ext w' w''∧Own u64E w'' w'.heap.size 38 v (bZ far l.length)∧IsFar G (aC W (x,y)) far∧fT G far))
 rw[hG]
 have HAt:=aA (fun(w':World)=>oA W H a l.length c bx byy bw bh tx ty w' hm hin.1 hin.2.1 hin.2.2.1 hin.2.2.2)
 have hti:=bT (W:=W) hin.1 (by omega) hin.2.2.1
 have htn:=L.plain.idx_lt hin
 obtain⟨t,hte⟩: ∃t,aC W (tx,ty)=t:=⟨_,rfl⟩
 rw[hte]at hti htn⊢
 rw[←hti]at HAt
 have HT:=aA (show vx W t=tx∧vy W t=ty by rw[←hte];exact⟨dQ hin.1 hin.2.1 hin.2.2.1,dR hin.1 hin.2.1 hin.2.2.1⟩)
 generalize aC W (x,y)=s at *
 obtain⟨n,hn⟩: ∃n,l.length=n:=⟨_,rfl⟩
 have HN:=aA hn
 have wh:=L.plain.wh
 rw[hn]at HLk HF HAt htn wh
 have hti2:(t:Int)<(n:Int):=by omega
 refine callsIn_wide.1 (callsIn_of_wp_marks (n:=4) Tryz.func28 rfl trivial ((wpIn_wide (n:=4)).2 ?_))
 rw[hn]
 simp only[Tryz.ntmps28,List.size_toArray,List.length_cons,List.length_nil,Nat.reduceAdd,Nat.reduceSub,Array.replicate_succ,Array.replicate_zero,List.push_toArray,List.append_toArray,List.nil_append,List.cons_append]
 generalize hQ:bodyPostM _ _ _ _ _=Q'
 have HQ:=aA hQ
 clear hQ
 have HTI:=aA hti
 clear hG he hr hu ht hm hl hf hh hin hte hn hti
 go_wp2_with (first
  |(go_at_call 66;refine(HLk.out _).mono ?_;rintro e w1 ⟨rfl,hb1⟩;obtain⟨hc1,hf1⟩:=hb1.cells;have hz1:=hb1.size;(try simp only[zS]at hz1);have z1_0:w.heap.size<w1.heap.size:=(by omega);have z1_1:w.heap.size+1<w1.heap.size:=(by omega);have z1_2:w.heap.size+2<w1.heap.size:=(by omega);have z1_3:w.heap.size+3<w1.heap.size:=(by omega))
  |(go_at_call 67;refine(HH.out _).mono ?_;rintro e w2 ⟨rfl,hb2⟩;obtain⟨hc2,hf2⟩:=hb2.cells;have hz2:=hb2.size;(try simp only[zS]at hz2);have z2_0:w.heap.size<w2.heap.size:=(by omega);have z2_1:w.heap.size+1<w2.heap.size:=(by omega);have z2_2:w.heap.size+2<w2.heap.size:=(by omega);have z2_3:w.heap.size+3<w2.heap.size:=(by omega)))
 have hx02:Ext w w2:=z_x
 have lb2:LandB w1.heap.size W H a n c bx byy bw bh w2:=LandB.ext (w:=w1.alloc (.cells #[.int .i64 W, .int .i64 H, .slice a n c, .int .i64 bx, .int .i64 byy, .int .i64 bw, .int .i64 bh] 147)) (by unfold LandB;simp[go_sem]) hb2 (by simp)
 have t0:w2.cell? ⟨w.heap.size+3,0,none⟩=some (.int .i64 tx):=by rw[hc2 _ _ (by simp;omega),((Ext.refl w1).alloc _).cell (p:=⟨w.heap.size+3,0,none⟩) z1_3,hc1 _ _ (by simp)];simp[go_sem]
 have t1:w2.cell? ⟨w.heap.size+3,1,none⟩=some (.int .i64 ty):=by rw[hc2 _ _ (by simp;omega),((Ext.refl w1).alloc _).cell (p:=⟨w.heap.size+3,1,none⟩) z1_3,hc1 _ _ (by simp)];simp[go_sem]
 have zw1:w.heap.size+3<w1.heap.size:=z1_3
 have zw2:w1.heap.size<w2.heap.size:=by have:=hb2.size;simp at this;omega
 have HX2:=aA hx02
 have LB2:=aA lb2
 have T0:=aA t0
 have T1:=aA t1
 clear hx02 lb2 t0 t1 hc1 hc2 hf1 hf2 hb1 hb2 hz1 hz2 z1_0 z1_1 z1_2 z1_3 z2_0 z2_1 z2_2 z2_3 HLk HH
 refine(HF.out _ HX2.out).mono ?_
 rintro e w3 ⟨v,far,rfl,hx3,hv,F1,F2⟩
 obtain⟨g,cg,rfl⟩: ∃g cg,v= .slice (some ⟨g,0,none⟩) n cg:=by
  rcases hv.2 with⟨_,hz⟩|⟨g,cap,cur,hv',_⟩
  ·rw[cJ]at hz
   omega
  exact⟨g,cap,by rw[hv',cJ]⟩
 have fa3:FarAt w3 w2.heap.size g cg far n:=hv
 have HX3:=aA (HX2.out.trans hx3)
 have t0:=(hx3.cell (p:=⟨w.heap.size+3,0,none⟩) (show w.heap.size+3<w2.heap.size by omega)).trans T0.out
 have t1:=(hx3.cell (p:=⟨w.heap.size+3,1,none⟩) (show w.heap.size+3<w2.heap.size by omega)).trans T1.out
 have lb3:=LB2.out.ext hx3 zw2
 have zw3:=hx3.size
 have FA3:=aA fa3
 have LB3:=aA lb3
 have FF:=aA F1
 have FLo:=aA F2
 have T03:=aA t0
 have T13:=aA t1
 obtain⟨l0,l1,l2,l3,l4,l5,l6⟩:=lb3
 clear hv F1 F2 fa3 hx3 HF LB2 T0 T1 HX2
 go_wp2_with fail
 refine(HAt.out _).mono ?_
 rintro e w4 ⟨rfl,hx4⟩
 have zw4:=hx4.size
 have FA4:=aA (FA3.out.ext hx4)
 have LB4:=aA (LB3.out.ext hx4 (by omega))
 have HX4:=aA (HX3.out.trans hx4)
 have t0:=(hx4.cell (p:=⟨w.heap.size+3,0,none⟩) (show w.heap.size+3<w3.heap.size by omega)).trans T03.out
 have t1:=(hx4.cell (p:=⟨w.heap.size+3,1,none⟩) (show w.heap.size+3<w3.heap.size by omega)).trans T13.out
 have f0:=(FA4.out.cell htn).1
 obtain⟨ft,hft⟩: ∃x,far t=x:=⟨_,rfl⟩
 have HFT:=aA hft
 rw[hft]at f0
 have T04:=aA t0
 have T14:=aA t1
 clear hft l0 l1 l2 l3 l4 l5 l6 LB3 FA3 T03 T13 hx4 HAt
 by_cases hA:ft=18446744073709551615
 ·have hA2:(ft==18446744073709551615)=true:=by simp[hA]
  go_wp2_with fail
  rw[←HQ.out]
  refine⟨.tuple #[.slice none 0 0, .int .u64 0, .int .i64 22],by simp[results,Tryz.results28,go_sem],?_⟩
  exact⟨far,FF.out,FLo.out,HX4.out, .inl ⟨HFT.out.trans hA,rfl⟩⟩
 have hA2:(ft==18446744073709551615)=false:=by simpa using hA
 have hfi:far t<aJ:=by
  have h1:=FF.out.le t
  have h2:=HFT.out
  have h3:aJ=18446744073709551615:=rfl
  omega
 obtain⟨p,hp⟩:=aCg FF.out (far t).toNat t (by have:=FF.out.nn t;omega) hfi
 have BP:=aA hp
 have HFI:=aA hfi
 clear hp hfi hA
 obtain⟨l0,l1,l2,l3,l4,l5,l6⟩:=LB4.out
 have zl4:w1.heap.size<w4.heap.size:=by omega
 have zt4:w.heap.size+3<w4.heap.size:=by omega
 go_wp2_with (go_at_call 70;refine(aG2 _ _ _ _ _ _ _ _ _ _ _ _ _ _ _).mono ?_;rintro e w9 ⟨rfl,hw9⟩;have HW9:=aA hw9;clear hw9)
 have hw9:=HW9.out
 clear HW9
 obtain⟨wb,hwb⟩: ∃wb,wb=w4.alloc (.cells #[.slice none 0 0] 37):=⟨_,rfl⟩
 rw[←hwb]at hw9
 have zwb:wb.heap.size=w4.heap.size+1:=by rw[hwb];simp
 have z9:w9.heap.size=wb.heap.size+3:=by rw[hw9];simp
 have OB:=aA (show w9.heap[w4.heap.size]? =some (.cells #[.slice none 0 0] 37 (0,0)) by
  rw[hw9,((Ext.refl wb).alloc _|>.alloc _|>.alloc _).block (k:=w4.heap.size) (by omega),hwb]
  exact kC _ _)
 have hx49:Ext w4 w9:=by rw[hw9,hwb];exact z_x
 have LB9:=aA (show LandB wb.heap.size W H a n c bx byy bw bh w9 by rw[hw9];unfold LandB;simp[go_sem])
 have FB9:=aA (show w9.cell? ⟨wb.heap.size+1,0,none⟩=some (.slice (some ⟨g,0,none⟩) n cg) by rw[hw9];simp[go_sem])
 have T09:=aA (show w9.cell? ⟨wb.heap.size+2,0,none⟩=some (.int .i64 (vx W t)) by rw[hw9,HT.out.1];simp[go_sem])
 have T19:=aA (show w9.cell? ⟨wb.heap.size+2,1,none⟩=some (.int .i64 (vy W t)) by rw[hw9,HT.out.2];simp[go_sem])
 have FA9:=aA (FA4.out.ext hx49)
 have HX9:=aA (HX4.out.trans hx49)
 have hgz:=FA4.out.lt
 clear hw9 hwb hx49 l0 l1 l2 l3 l4 l5 l6 LB4 T04 T14 t0 t1 f0
 go_wp2_with fail
 have hL9:=L.ext HX9.out
 obtain⟨i0,hi,hz0,hz1,hz2⟩:=info_parts T_cells.info
 obtain⟨ab,aoff,hae,zab,_⟩:=L.row (by rw[HN.out];omega)
 have hfew:=BP.out.few FF.out HFI.out
 have hGn:G.n=n:=by rw[←HG.out];exact HN.out
 rw[hGn]at hfew
 have hwz:=HX4.out.size
 have e9:aE hL9.plain=G:=HG.out
 have FF9:IsFar (aE hL9.plain) s far:=e9▸FF.out
 have BP9:BackP (aE hL9.plain) far t p:=e9▸BP.out
 have lb9:LandB wb.heap.size W H a l.length c bx byy bw bh w9:=HN.out▸LB9.out
 have fb9:w9.cell? ⟨wb.heap.size+1,0,none⟩=some (.slice (some ⟨g,0,none⟩) l.length cg):=HN.out▸FB9.out
 have fa9:FarAt w9 w2.heap.size g cg far l.length:=HN.out▸FA9.out
 have hRa: ∀b o,a=some ⟨b,o,none⟩→b=wb.heap.size∨b=wb.heap.size+1∨b=g∨b=ab:=fun b o e=>by
  rw[hae]at e
  injection e with e
  injection e with e1
  exact .inr (.inr (.inr e1.symm))
 have hRl: ∀k,(k=wb.heap.size∨k=wb.heap.size+1∨k=g∨k=ab)→k<w9.heap.size:=fun k hk=>by omega
 have hseq:qR Tryz.prog 121 #[.pointer (some ⟨wb.heap.size+2,0,none⟩), .pointer (some ⟨wb.heap.size+1,0,none⟩), .pointer (some ⟨wb.heap.size,0,none⟩)] (fun q:aB=> #[.agg #[.int .i64 q.1, .int .i64 q.2]]) (p.map (aG W)) (fun k=>k=wb.heap.size∨k=wb.heap.size+1∨k=g∨k=ab) w9:=
  aBf hL9 FF9 HFI.out BP9 lb9 fb9 fa9 T09.out T19.out (by omega) (by omega) (by omega) (.inl rfl) (.inr (.inl rfl)) (.inr (.inr (.inl rfl))) hRa hRl
 clear e9 FF9 BP9 lb9 fb9 fa9 hRa
 have OBo:=OB.out
 have eg: ∀args w,(callFunc 121 args).run Tryz.prog w= .ok (.enter 121 args) w:=enters_of Tryz.func121 (by kernel_rfl) rfl
 refine(wpIn_wide (n:=4)).1 ?_
 refine aB1 (g:= .tmp 47) (psl:=48) (bs:=16) (v:=fun q:aB=> .agg #[.int .i64 q.1, .int .i64 q.2]) (cs:=fun q:aB=> #[.int .i64 q.1, .int .i64 q.2]) (t:=28) (gf:=121) ?hg eg hseq
  (fun T pre W1=>(∀k,T k→w9.heap.size≤k∧k<W1.heap.size)∧Ext w W1∧w9.heap.size≤W1.heap.size∧ ∃v,W1.heap[w4.heap.size]? =some (.cells #[v] 37 (0,0))∧Own cellE W1 (w9.heap.size+2) 28 v pre∧ ∀k,v.ownBlock=some k→ ¬T k)
  hRl ?hO ?hA ?hE ?hS ⟨fun _ h=>h.elim,HX9.out,Nat.le_refl _,_,OBo,Own.nil _ _ _ _,fun _ _ h=>h⟩ ?assign ?body ?done
 case hg=>(rw[zwb];rfl)
 case hO=>
  rintro T pre W1 W2 ⟨i1,i2,i3,v,i4,i5,i6⟩ tt
  exact⟨fun k hk=>⟨(i1 k hk).1,Nat.lt_of_lt_of_le (i1 k hk).2 tt.size⟩,((Touch.of_ext (S:=fun _=>False) i2).after tt (fun k hk h=>by omega)).ext,Nat.le_trans i3 tt.size,v,(tt.block _ (by omega) (fun h=>by omega)).trans i4,Own.touch i5 tt (fun k hk h=>by have:=aF i5 hk;omega),i6⟩
 case hA=>
  rintro T pre W1 o ⟨i1,i2,i3,v,i4,i5,i6⟩
  exact⟨fun k hk=>hk.elim (fun h=>⟨(i1 k h).1,by have:=(i1 k h).2;simp;omega⟩) (fun e=>⟨by omega,by simp;omega⟩),i2.alloc _,by simp;omega,v,(((Ext.refl W1).alloc o).block (by omega)).trans i4,i5.alloc _,fun k hk h=>h.elim (i6 k hk) (fun e=>by have:=aF i5 hk;omega)⟩
 case hE=>
  rintro T pre W1 W2 ⟨i1,i2,i3,v,i4,i5,i6⟩ e
  exact⟨fun k hk=>⟨(i1 k hk).1,Nat.lt_of_lt_of_le (i1 k hk).2 e.size⟩,i2.trans e,Nat.le_trans i3 e.size,v,(e.block (by omega)).trans i4,i5.ext e,i6⟩
 case hS=>
  rintro T pre W1 q u ⟨i1,i2,i3,v,i4,i5,i6⟩ hq
  have tt:Touch (fun k=>k=q.block) W1 (W1.setCell q u):=(Touch.refl (fun k=>k=q.block) W1).setCell (.inl rfl) u
  have hqb:=(i1 _ hq).1
  exact⟨fun k hk=>⟨(i1 k hk).1,Nat.lt_of_lt_of_le (i1 k hk).2 tt.size⟩,i2.setCell (by omega) _,Nat.le_trans i3 tt.size,v,(tt.block _ (by omega) (fun h=>by omega)).trans i4,Own.touch i5 tt (fun k hk h=>i6 k hk (by rw[h];exact hq)),i6⟩
 case assign=>
  intro q W1 K hK
  simp only[List.setIfInBounds_toArray,List.set_cons_zero,List.set_cons_succ]at hK⊢
  gi_wp2
  exact hK W1.heap.size _ z_x (kC _ _) (Nat.le_refl _)
 case body=>
  rintro T pre q Bx W1 ⟨i1,i2,i3,v,i4,i5,i6⟩ hb hz hz2 hpre
  simp only[List.setIfInBounds_toArray,List.set_cons_zero,List.set_cons_succ]
  have q0:W1.cell? ⟨Bx,0,none⟩=some (.int .i64 q.1):=by simp[World.cell?,hb]
  have q1:W1.cell? ⟨Bx,1,none⟩=some (.int .i64 q.2):=by simp[World.cell?,hb]
  have o0:W1.cell? ⟨w4.heap.size,0,none⟩=some v:=by simp[World.cell?,i4]
  have zob:w4.heap.size<W1.heap.size:=by omega
  have zBx:Bx<W1.heap.size:=(Array.getElem?_eq_some_iff.1 hb).1
  have hlen:pre.length+1≤65536:=by
   obtain⟨rr,hrr⟩:=hpre
   have:=congrArg List.length hrr
   simp at this
   omega
  have I5:=aA i5
  have ZZ:=aA (show _∧_ from⟨zwb,z9⟩)
  have I4:=aA i4
  have HZ:=aA (show w.heap.size≤w4.heap.size∧w.heap.size≤W1.heap.size from⟨hwz,i2.size⟩)
  have hbase:w9.heap.size+2≤W1.heap.size:=hz2
  clear hb zwb z9 i4
  gi_wp2_with (gi_at_builtin;refine nJ cellE T_cells rfl _ _ rfl (w9.heap.size+2) _ _ pre rfl I5.out q _ _ rfl _ rfl rfl (by omega) (by omega) hbase ?_;intro g' cap' w10 hown' ht10 hloc;have hob:w10.heap[w4.heap.size]? =some (.cells #[v] 37 (0,0)):=(ht10.block _ zob (fun e=>by have:=aF I5.out e;have:=ZZ.out;omega)).trans I4.out;have hoc:w10.cell? ⟨w4.heap.size,0,none⟩=some v:=(by simp[World.cell?,hob]);have hof:w10.frozen? ⟨w4.heap.size,0,none⟩=false:=(by simp[World.frozen?,hob]);have HOB:=aA hob;have HO':=aA hown';have HT':=aA ht10;have HLO:=aA hloc;clear hown' ht10 hloc hob)
  obtain⟨zwb,z9⟩:=ZZ.out
  have hzz:=HZ.out
  have ht10:=HT'.out
  have hzg:=ht10.size
  have ho':w9.heap.size+2≤g'∧g'<w10.heap.size:=aF HO'.out rfl
  have tt:Touch (fun k=> ¬T k∧ ¬(k=wb.heap.size∨k=wb.heap.size+1∨k=g∨k=ab)∧k≠w9.heap.size∧k≠w9.heap.size+1) W1 (w10.setCell ⟨w4.heap.size,0,none⟩ (.slice (some ⟨g',0,none⟩) (pre.length+1) cap')):=by
   refine(ht10.mono (fun k _ hk=>⟨i6 k hk,fun e=> ?_,fun e=> ?_,fun e=> ?_⟩)).setCell (p:=⟨w4.heap.size,0,none⟩) (.inl ⟨fun hT=> ?_,fun e=> ?_,?_,?_⟩) _
   ·have:=(aF I5.out hk).1;omega
   ·have:=(aF I5.out hk).1;omega
   ·have:=(aF I5.out hk).1;omega
   ·have:=(i1 _ hT).1;have e2:w9.heap.size≤w4.heap.size:=this;omega
   ·have e2:w4.heap.size=wb.heap.size∨w4.heap.size=wb.heap.size+1∨w4.heap.size=g∨w4.heap.size=ab:=e;omega
   ·show w4.heap.size≠_;omega
   show w4.heap.size≠_;omega
  have tts:=tt.size
  have ts:Touch (fun k=>k=w4.heap.size) w10 (w10.setCell ⟨w4.heap.size,0,none⟩ (.slice (some ⟨g',0,none⟩) (pre.length+1) cap')):=(Touch.refl (fun k=>k=w4.heap.size) w10).setCell (p:=⟨w4.heap.size,0,none⟩) (.inl rfl) _
  refine⟨⟨fun k hk=>⟨(i1 k hk).1,Nat.lt_of_lt_of_le (i1 k hk).2 hzg⟩,?_,by omega,_,?_,Own.touch HO'.out ts (fun k hk e=> ?_),fun k hk hT=> ?_⟩,?_⟩
  ·refine(((Touch.of_ext (S:=fun _=>False) i2).after ht10 (fun k hk h=> ?_)).after ts (fun k hk h=> ?_)).ext
   ·have:=(aF I5.out h).1;omega
   have e2:k=w4.heap.size:=h;omega
  ·have hbk:Blk w10 w4.heap.size 37 #[v]:=HOB.out
   have:=hbk.set_ 0 (.slice (some ⟨g',0,none⟩) (pre.length+1) cap')
   unfold Blk at this
   simpa using this
  ·simp only[Value.ownBlock,Option.some.injEq]at hk
   subst hk
   have e2:g'=w4.heap.size:=e
   omega
  ·simp only[Value.ownBlock,Option.some.injEq]at hk
   subst hk
   rcases HLO.out with h|h
   ·exact i6 _ h hT
   have:=(i1 _ hT).2;omega
  refine tt.mono fun k _ h=> ?_
  simpa using h
 rintro T W1 ⟨i1,i2,i3,v,i4,i5,i6⟩ hD
 dsimp only
 have hplen:1≤p.length:=by obtain⟨r,hr⟩:=BP.out.head;rw[hr];simp
 obtain⟨gv,gc,rfl⟩: ∃gv gc,v= .slice (some ⟨gv,0,none⟩) p.length gc:=by
  rcases i5.2 with⟨_,hz⟩|⟨g',cap,cur,hv',_⟩
  ·simp at hz
   subst hz
   simp at hplen
  exact⟨g',cap,by rw[hv'];simp⟩
 have o0:W1.cell? ⟨w4.heap.size,0,none⟩=some (.slice (some ⟨gv,0,none⟩) p.length gc):=by simp[World.cell?,i4]
 have I5:=aA i5
 have ID:=aA hD
 have I2:=aA i2
 have I4:=aA i4
 have zob:w4.heap.size<W1.heap.size:=by omega
 have hgv:w9.heap.size+2≤gv∧gv<W1.heap.size:=aF i5 rfl
 have ZZ:=aA (show _∧_∧_ from⟨zwb,z9,i3⟩)
 clear i5 hD i2 i4 zwb z9 i1 i6
 go_wp2_with fail
 refine(rV (l:=p.map (aG W)) (by simp) hplen (by omega) I5.out).mono ?_
 rintro e w5 ⟨rfl,hr5,t5⟩
 have hgob:w4.heap.size≠gv:=by have:=ZZ.out;omega
 have o5:=(t5.cell (p:=⟨w4.heap.size,0,none⟩) zob hgob).trans o0
 have R5:=aA hr5
 have T5:=aA t5
 have hz5:=t5.size
 clear hr5 t5 o0
 go_wp2_with fail
 obtain⟨zwb,z9,i3⟩:=ZZ.out
 have hD5:w5.heap[w9.heap.size]? =some (.deferred (some [])):=(T5.out.block _ (by omega) (by omega)).trans ID.out
 rw[←HQ.out]
 refine⟨by simp, .inl ⟨_,_,rfl,run_takeDeferred hD5,?_⟩⟩
 refine⟨.tuple #[.slice (some ⟨gv,0,none⟩) p.length gc, .int .u64 ft, .int .i64 0],by simp[results,Tryz.results28,go_sem],?_⟩
 have t6:Touch (fun j=>j=w9.heap.size) w5 (w5.putObj w9.heap.size (.deferred none)):=cZ _ _
 have hww:=HX9.out.size
 refine⟨far,FF.out,FLo.out,((((Touch.of_ext (S:=fun _=>False) I2.out).after T5.out (fun k hk e=>by omega)).after t6 (fun k hk e=>by omega))).ext, .inr ⟨HFI.out,_,p,by rw[HFT.out],BP.out,?_⟩⟩
 have:=Own.touch R5.out t6 (fun k hk e=>by simp only[Value.ownBlock,Option.some.injEq]at hk;omega)
 exact Own.lower this (by omega)
end Go.Proofs.YtaellcgglldjaaaGreat

namespace Go.Proofs.YtaellcgglldjaaaGreat
open Go.RowKit
theorem aG3 {w:World} {W H:Int} {a:Option Addr} {l:List Int} {bx byy bw bh x y:Int} (c:Nat) (tx ty:Int) (L:LandP W H l bx byy bw bh) (he:eA W H l.length bx byy bw bh x y=0) (hr:Row16 w a l) (hu:cV l) (ht:bO bx byy bw bh tx ty=true) (hd:cL L (x,y) (aC W (tx,ty))<aJ):
  Calls Tryz.prog 28 #[.agg #[.int .i64 W, .int .i64 H, .slice a l.length c], .agg #[.int .i64 bx, .int .i64 byy, .int .i64 bw, .int .i64 bh], .agg #[.int .i64 x, .int .i64 y], .agg #[.int .i64 tx, .int .i64 ty]] w fun e w'=>
   ∃v z p,e= .returned (.tuple #[v, .int .u64 z, .int .i64 0])∧Ext w w'∧BackP (aE L) (cL L (x,y)) (aC W (tx,ty)) p∧Own cellE w' w.heap.size 28 v (p.map (aG W)).reverse:=by
 refine(aIv c tx ty he hr hu ht).mono ?_
 rintro e w' ⟨far,F,_,hx,h⟩
 have hfd:far=cL L (x,y):=funext fun v=>oU L F v
 subst hfd
 rcases h with⟨h,_⟩|⟨_,v,p,he',hb,ho⟩
 ·omega
 exact⟨v,_,p,he',hx,hb,ho⟩
set_option maxRecDepth 100000 in
set_option maxHeartbeats 1000000 in
theorem aLc {w:World} {sb lb:Nat} {p:Spot} {R:Nat→Prop} {W H s:Int} {l:List Int} {fa:Option Addr} {fc:Nat} {ga:Option Addr} {gc:Nat} {f t:aB} (h:HLand w lb p R W H s l fa fc ga gc f t) (hsl:w.cell? ⟨sb,0,none⟩=some (.pointer (some ⟨lb,0,none⟩))) (hsb:sb<w.heap.size) (a c:aB) (x:Int) (ha:inB W H a.1 a.2=true) (hc:inB W H c.1 c.2=true) (hne:ofN W s c.1 c.2=ofN W s a.1 a.2) (L:fE W H s (ofN W s a.1 a.2) l) (hd:cL L a (aC W c)<aJ):
  Calls Tryz.prog 150 #[.pointer (some ⟨sb,0,none⟩),cD a c x] w fun e w'=> ∃v q,e= .returned v∧Ext w w'∧BackP (aE L) (cL L a) (aC W c) q∧Own cellE w' w.heap.size 28 v (q.map (aG W)).reverse:=by
 have g:=h.good
 have hr:=g.right
 have hid:=iF g.right ha
 obtain⟨ax,ay⟩:=a
 obtain⟨cx,cy⟩:=c
 simp only at ha hc hne L hd hid
 have HLK:eA W H l.length (aR W s (ofN W s ax ay)) (aO W s (ofN W s ax ay)) (aZ W s (ofN W s ax ay)) (bA W H s (ofN W s ax ay)) ax ay=0:=by
  refine lookE_ok.2 ⟨(g.box hid).may,(g.box hid).len,(g.box hid).fits,?_⟩
  rw[←iN g.right hid (ax,ay)]
  unfold fZ
  rw[ha]
  simp
 have hht:bO (aR W s (ofN W s ax ay)) (aO W s (ofN W s ax ay)) (aZ W s (ofN W s ax ay)) (bA W H s (ofN W s ax ay)) cx cy=true:=by
  rw[←iN g.right hid (cx,cy)]
  unfold fZ
  rw[hc]
  simp[hne]
 have HOA:=aA (fun(w':World)=>lC W H s ax ay w' hr ha)
 have HOC:=aA (fun(w':World)=>lC W H s cx cy w' hr hc)
 have HBX:Hid (∀(w':World),Calls Tryz.prog 27 #[.agg #[.int .i64 W, .int .i64 H, .int .i64 s], .int .i64 (ofN W s ax ay)] w' fun e w''=>e= .returned (.tuple #[.agg #[.int .i64 (aR W s (ofN W s ax ay)), .int .i64 (aO W s (ofN W s ax ay)), .int .i64 (aZ W s (ofN W s ax ay)), .int .i64 (bA W H s (ofN W s ax ay))], .int .i64 0])∧Ext w' w''):=aA (fun w'=>uJ W H s (ofN W s ax ay) w' hr hid.1 hid.2)
 have HPA:=aA (fun(w':World) (x:Ext w w')=>aG3 (w:=w') fc cx cy L HLK (h.row.ext x) g.u16 hht hd)
 have B:=aA h.blk
 unfold eJ at B
 rw[hne]at HOC
 obtain⟨i1,hi1⟩: ∃z,ofN W s ax ay=z:=⟨_,rfl⟩
 have HSL:=aA (fun(w':World) (x:Ext w w')=>(show w'.cell? ⟨sb,0,none⟩=some (.pointer (some ⟨lb,0,none⟩))∧sb<w'.heap.size from⟨(x.cell (p:=⟨sb,0,none⟩) hsb).trans hsl,Nat.lt_of_lt_of_le hsb x.size⟩))
 obtain⟨n,hn⟩: ∃z,l.length=z:=⟨_,rfl⟩
 obtain⟨m,hm⟩: ∃z,(aD W H s l).length=z:=⟨_,rfl⟩
 rw[hn,hm]at B
 rw[hn]at HPA
 have HQ:=aA hi1
 generalize hD:cL L (ax,ay)=D at *
 generalize aE L=NL at *
 rw[hi1]at HOA HOC HBX HPA
 clear h g hr hid HLK hht ha hc hne hd hD L hsl hsb hn hm hi1
 generalize aZ W s i1=bw at *
 generalize bA W H s i1=bh at *
 generalize aR W s i1=bx at *
 generalize aO W s i1=byy at *
 unfold cD
 simp only
 have d1:(i1==i1)=true:=by simp
 go_enter Tryz.func150,Tryz.ntmps150
 go_upto_region 1 with(fail)
 obtain⟨w1,hw1⟩: ∃z,z=w.alloc (.cells #[.int .i64 ax, .int .i64 ay, .int .i64 cx, .int .i64 cy, .int .u64 x] 56):=⟨_,rfl⟩
 have X1:=aA (show Ext w w1 by rw[hw1];exact(Ext.refl _).alloc _)
 have L1:=aA (show Blk w1 w.heap.size 56 #[.int .i64 ax, .int .i64 ay, .int .i64 cx, .int .i64 cy, .int .u64 x] by rw[hw1];exact Blk.new_ rfl)
 rw[←hw1]
 have B1:=aA (B.out.ext X1.out)
 clear hw1
 obtain⟨s0,sz⟩:=HSL.out w1 X1.out
 have c0:=L1.out.at 0 rfl;have c1:=L1.out.at 1 rfl;have c2:=L1.out.at 2 rfl;have c3:=L1.out.at 3 rfl;have c4:=L1.out.at 4 rfl;have cz:=L1.out.lt
 have b0:=B1.out.at 0 rfl;have b1:=B1.out.at 1 rfl;have b2:=B1.out.at 2 rfl;have b3:=B1.out.at 3 rfl;have b4:=B1.out.at 4 rfl;have b5:=B1.out.at 5 rfl;have b6:=B1.out.at 6 rfl;have b7:=B1.out.at 7 rfl;have b8:=B1.out.at 8 rfl;have b9:=B1.out.at 9 rfl;have b10:=B1.out.at 10 rfl;have b11:=B1.out.at 11 rfl;have bz:=B1.out.lt
 refine aS w1 [(0,true),(1,true),(2,true),(3,true),(4,true),(5,true),(6,true),(7,true),(8,true),(9,false),(10,true),(11,true),(12,true),(13,true),(14,true)] (fun hK0=> ?_)
 iterate 9 (refine SeqH.fr1 ?_;try simp only[zz])
 (refine aP ?_;intro K hK;go_simp;refine(HOA.out _).mono ?_;rintro e w3 ⟨rfl,x3⟩;go_wp2_with fail;refine hK.out _ _ (aI z_x) (fun hK0=> ?_);clear hK K;try simp only[zz])
 iterate 5 (refine SeqH.fr1 ?_;try simp only[zz])
 refine SeqH.done ?_
 have XE:=aA hK0.2
 clear hK0 x3 s0 sz c0 c1 c2 c3 c4 cz b0 b1 b2 b3 b4 b5 b6 b7 b8 b9 b10 b11 bz
 have X3:=aA (X1.out.trans XE.out)
 have L3:=aA (L1.out.ext XE.out)
 have B3:=aA (B.out.ext X3.out)
 clear XE
 obtain⟨s0,sz⟩:=HSL.out w3 X3.out
 have c0:=L3.out.at 0 rfl;have c1:=L3.out.at 1 rfl;have c2:=L3.out.at 2 rfl;have c3:=L3.out.at 3 rfl;have c4:=L3.out.at 4 rfl;have cz:=L3.out.lt
 have b0:=B3.out.at 0 rfl;have b1:=B3.out.at 1 rfl;have b2:=B3.out.at 2 rfl;have b3:=B3.out.at 3 rfl;have b4:=B3.out.at 4 rfl;have b5:=B3.out.at 5 rfl;have b6:=B3.out.at 6 rfl;have b7:=B3.out.at 7 rfl;have b8:=B3.out.at 8 rfl;have b9:=B3.out.at 9 rfl;have b10:=B3.out.at 10 rfl;have b11:=B3.out.at 11 rfl;have bz:=B3.out.lt
 go_upto_region 2 with(fail)
 refine aS w3 [(0,true),(1,true),(2,true),(3,true),(4,true),(5,true),(6,true),(7,true),(8,true),(9,false),(10,true),(11,true),(12,true),(13,true),(14,true)] (fun hK0=> ?_)
 iterate 9 (refine SeqH.fr1 ?_;try simp only[zz])
 (refine aP ?_;intro K hK;go_simp;refine(HOC.out _).mono ?_;rintro e w5 ⟨rfl,x5⟩;go_wp2_with fail;refine hK.out _ _ (aI z_x) (fun hK0=> ?_);clear hK K;try simp only[zz])
 iterate 5 (refine SeqH.fr1 ?_;try simp only[zz])
 refine SeqH.done ?_
 have XE:=aA hK0.2
 clear hK0 x5 s0 sz c0 c1 c2 c3 c4 cz b0 b1 b2 b3 b4 b5 b6 b7 b8 b9 b10 b11 bz
 have X5:=aA (X3.out.trans XE.out)
 have L5:=aA (L3.out.ext XE.out)
 have B5:=aA (B.out.ext X5.out)
 have z5:=X5.out.size
 clear XE
 obtain⟨s0,sz⟩:=HSL.out w5 X5.out
 have c0:=L5.out.at 0 rfl;have c1:=L5.out.at 1 rfl;have c2:=L5.out.at 2 rfl;have c3:=L5.out.at 3 rfl;have c4:=L5.out.at 4 rfl;have cz:=L5.out.lt
 have b0:=B5.out.at 0 rfl;have b1:=B5.out.at 1 rfl;have b2:=B5.out.at 2 rfl;have b3:=B5.out.at 3 rfl;have b4:=B5.out.at 4 rfl;have b5:=B5.out.at 5 rfl;have b6:=B5.out.at 6 rfl;have b7:=B5.out.at 7 rfl;have b8:=B5.out.at 8 rfl;have b9:=B5.out.at 9 rfl;have b10:=B5.out.at 10 rfl;have b11:=B5.out.at 11 rfl;have bz:=B5.out.lt
 go_upto_region 5 with(fail)
 go_upto_region 6 with(go_at_call 27;refine(HBX.out _).mono ?_;rintro e w6 ⟨rfl,x6⟩;have X6:=aA (X5.out.trans x6);have L6:=aA (L5.out.ext x6);clear x6 s0 sz c0 c1 c2 c3 c4 cz b0 b1 b2 b3 b4 b5 b6 b7 b8 b9 b10 b11 bz)
 obtain⟨w7,hw7⟩: ∃z,z=w6.alloc (.cells #[.int .i64 bx, .int .i64 byy, .int .i64 bw, .int .i64 bh] 71):=⟨_,rfl⟩
 have x7:Ext w6 w7:=by rw[hw7];exact(Ext.refl _).alloc _
 have K7:=aA (show Blk w7 w6.heap.size 71 #[.int .i64 bx, .int .i64 byy, .int .i64 bw, .int .i64 bh] by rw[hw7];exact Blk.new_ rfl)
 have X7:=aA (X6.out.trans x7)
 have L7:=aA (L6.out.ext x7)
 have B7:=aA (B.out.ext X7.out)
 rw[←hw7]
 clear hw7 x7
 obtain⟨s0,sz⟩:=HSL.out w7 X7.out
 have c0:=L7.out.at 0 rfl;have c1:=L7.out.at 1 rfl;have c2:=L7.out.at 2 rfl;have c3:=L7.out.at 3 rfl;have c4:=L7.out.at 4 rfl;have cz:=L7.out.lt
 have b0:=B7.out.at 0 rfl;have b1:=B7.out.at 1 rfl;have b2:=B7.out.at 2 rfl;have b3:=B7.out.at 3 rfl;have b4:=B7.out.at 4 rfl;have b5:=B7.out.at 5 rfl;have b6:=B7.out.at 6 rfl;have b7:=B7.out.at 7 rfl;have b8:=B7.out.at 8 rfl;have b9:=B7.out.at 9 rfl;have b10:=B7.out.at 10 rfl;have b11:=B7.out.at 11 rfl;have bz:=B7.out.lt
 have k0:=K7.out.at 0 rfl;have k1:=K7.out.at 1 rfl;have k2:=K7.out.at 2 rfl;have k3:=K7.out.at 3 rfl;have kz:=K7.out.lt
 refine aS w7 [(0,true),(1,true),(2,true),(3,true),(4,true),(5,true),(6,true),(7,true),(8,true),(9,true),(10,true),(11,true),(12,false),(13,true),(14,true),(15,true),(16,true),(17,true),(18,true),(19,true)] (fun hK0=> ?_)
 iterate 12 (refine SeqH.fr1 ?_;try simp only[zz])
 (refine aP ?_;intro K hK;go_simp;refine(HPA.out _ (X7.out.trans z_x)).mono ?_;rintro e w8 ⟨v8,z8,q,rfl,x8,hb8,o8⟩;obtain⟨a8,c8,rfl⟩:=o8.slice;have O8:=aA o8;have Q8:=aA hb8;generalize ((q.map (aG W)).reverse).length=y8 at *;clear o8 hb8;go_wp2_with fail;refine hK.out _ _ (aI z_x) (fun hK0=> ?_);clear hK K;try simp only[zz])
 iterate 7 (refine SeqH.fr1 ?_;try simp only[zz])
 refine SeqH.done ?_
 have XE:=aA hK0.2
 clear hK0 x8 s0 sz c0 c1 c2 c3 c4 cz b0 b1 b2 b3 b4 b5 b6 b7 b8 b9 b10 b11 bz k0 k1 k2 k3 kz
 have z7:=X7.out.size
 go_wp2
 go_ret
 exact⟨_,q,rfl,X7.out.trans XE.out,Q8.out,O8.out.lower (by(try simp only[World.size_drew]);omega)⟩
end Go.Proofs.YtaellcgglldjaaaGreat

