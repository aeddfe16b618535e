/- Part of a proof: StarA StarB StarC. -/
import Derived.Test.YtaellcgglldjaaaGreatHierNodesQ25
import Derived.Test.YtaellcgglldjaaaGreatHierNodesQ01
import Derived.RangeFuncBox
import Derived.OwnWalkIn
import Derived.TacticsInMore
import Derived.Test.YtaellcgglldjaaaGreatHierNodesQ24
set_option linter.all false
set_option linter.unusedVariables false
set_option linter.unusedSimpArgs false
namespace Go.Proofs.YtaellcgglldjaaaGreat
open Go.RowKit
theorem aIx (k:Nat) (hk:k<4) (w:World):Calls Tryz.prog 181 #[.int .i64 (k:Int)] w fun e w'=>e= .returned (.agg #[.int .i64 (aV k), .int .i64 (aU k)])∧Ext w w':=by
 obtain rfl|rfl|rfl|rfl:k=0∨k=1∨k=2∨k=3:=by omega
 ·go_enter Tryz.func181,Tryz.ntmps181
  go_wp2
  exact bodyPost_ret (v:= .agg #[.int .i64 0, .int .i64 (-1)]) (by simp[results,Tryz.results181,go_sem, *]) rfl ⟨rfl,z_x⟩
 ·go_enter Tryz.func181,Tryz.ntmps181
  go_wp2
  exact bodyPost_ret (v:= .agg #[.int .i64 1, .int .i64 0]) (by simp[results,Tryz.results181,go_sem, *]) rfl ⟨rfl,z_x⟩
 ·go_enter Tryz.func181,Tryz.ntmps181
  go_wp2
  exact bodyPost_ret (v:= .agg #[.int .i64 0, .int .i64 1]) (by simp[results,Tryz.results181,go_sem, *]) rfl ⟨rfl,z_x⟩
 ·go_enter Tryz.func181,Tryz.ntmps181
  go_wp2
  exact bodyPost_ret (v:= .agg #[.int .i64 (-1), .int .i64 0]) (by simp[results,Tryz.results181,go_sem, *]) rfl ⟨rfl,z_x⟩
theorem aEr (k:Nat) (hk:k<4) (x y:Int) (hx: -1000000≤x∧x≤1000000) (hy: -1000000≤y∧y≤1000000) (w:World):Calls Tryz.prog 157 #[.agg #[.int .i64 x, .int .i64 y], .int .i64 (k:Int)] w fun e w'=>e= .returned (.agg #[.int .i64 (x+aV k), .int .i64 (y+aU k)])∧Ext w w':=by
 have H1:=aA (fun w'=>aIx k hk w')
 have hb:=sS k
 generalize aV k=dx at *
 generalize aU k=dy at *
 clear hk
 go_enter Tryz.func157,Tryz.ntmps157
 go_wp2_with (go_at_call 181;refine(H1.out _).mono ?_;rintro e w1 ⟨rfl,hb1⟩;obtain⟨hc1,hf1⟩:=hb1.cells;have hz1:=hb1.size;(repeat(first|rw[World.size_alloc]at hz1|rw[World.size_drew]at hz1));have z1_0:w.heap.size<w1.heap.size:=(by omega);have z1_1:w.heap.size+1<w1.heap.size:=(by omega))
 exact bodyPost_ret (v:= .agg #[.int .i64 (x+dx), .int .i64 (y+dy)]) (by simp[results,Tryz.results157,go_sem, *]) rfl ⟨rfl,z_x⟩
theorem aB7 (x y:Int) (w:World):Calls Tryz.prog 112 #[.agg #[.int .i64 x, .int .i64 y]] w fun e w'=>e= .returned (.func (.func 156) #[] #[.pointer (some ⟨w.heap.size,0,none⟩)])∧w'=w.alloc (.cells #[.int .i64 x, .int .i64 y] 28):=by
 go_enter Tryz.func112,Tryz.ntmps112
 go_wp2
 go_ret
 exact⟨rfl,rfl⟩
def eU (x y:Int):List (Int×aB):=(List.range 4).map fun k:Nat=>((k:Int),(x+aV k,y+aU k))
theorem mI (x y:Int):(eU x y).length=4:=by simp[eU]
theorem aJg (x y:Int) {k:Nat} (hk:k<4):(eU x y)[k]? =some ((k:Int),(x+aV k,y+aU k)):=by
 unfold eU
 rw[List.getElem?_map,List.getElem?_range hk]
 rfl
theorem tC (x y:Int) {k:Nat} (hk:k<4):(eU x y).take (k+1)=(eU x y).take k++[((k:Int),(x+aV k,y+aU k))]:=by
 have h:=aJg x y hk
 have hl:k<(eU x y).length:=by rw[mI];exact hk
 rw[List.take_add_one,h]
 rfl
def dcV (q:Int×aB):Array Value:= #[.int .i64 q.1, .agg #[.int .i64 q.2.1, .int .i64 q.2.2]]
theorem wP {w:World} {x y:Int} (hx: -1000000≤x∧x≤1000000) (hy: -1000000≤y∧y≤1000000) {bc:Nat} {R:Nat→Prop} (B:Blk w bc 28 #[.int .i64 x, .int .i64 y]) (Rb:R bc) (hR: ∀k,R k→k<w.heap.size):
  qC Tryz.prog 156 #[.pointer (some ⟨bc,0,none⟩)] dcV (eU x y) R w:=by
 intro lp J W0 hx0 hA hE hS hY hJ0
 have HE:=aA hE
 have HY:=aA hY
 have HJ0:=aA hJ0
 have B0:=aA (B.ext hx0)
 have zbc:=B0.out.lt
 clear hA hE hS hY hJ0 B hR hx0
 show Calls Tryz.prog 156 #[.func (.yield lp) #[] #[], .pointer (some ⟨bc,0,none⟩)] W0 _
 go_enter Tryz.func156,Tryz.ntmps156
 go_wp2
 go_loopw [3] (fun s3 wr=> ∃(k:Nat) (T:Nat→Prop),k≤4∧s3= .int .i64 (k:Int)∧J T ((eU x y).take k) wr∧Touch (fun j=> ¬R j) W0 wr) (fun s3 _=>4-(intOf s3).toNat)
 case atStart=>exact⟨0,fun _=>False,by omega,rfl,HJ0.out,Touch.refl _ _⟩
 case round=>
  obtain⟨k,T,hk,rfl,hJ,ht⟩:=hrel
  have J1:=aA hJ
  have T1:=aA ht
  have B1:=aA (B0.out.touch ht (fun h=>h Rb))
  have q0:=B1.out.at 0 rfl;have q1:=B1.out.at 1 rfl;have qz:=B1.out.lt
  clear hJ ht
  by_cases hlt:k<4
  ·have HN:=aA (fun w'=>aEr k hlt x y hx hy w')
   have hd:decide ((k:Int)≤3)=true:=by simp;omega
   have hpre:(eU x y).take k++[((k:Int),(x+aV k,y+aU k))]<+:eU x y:=by rw[←tC x y hlt];exact List.take_prefix _ _
   have HPRE:=aA hpre
   clear hpre
   refine(wpIn_wide (n:=4)).1 ?_
   gi_wp2_with (first
    |(refine⟨trivial,?_⟩;gi_at_call 157;refine(callsIn_wide.2 (HN.out _)).mono ?_;rintro e w2 ⟨rfl,hb2⟩;obtain⟨fn,tmps,assign,body,hyy,hRR⟩:=HY.out T _ _ w2 (HE.out _ _ _ _ J1.out hb2) HPRE.out;have HRR:=aA hRR;have HB2:=aA hb2;clear hRR hb2;unfold dcV at hyy)
    |(refine HRR.out.mono ?_;rintro e w3 ⟨rfl,hJ3,ht3⟩;have J3:=aA hJ3;have T3:=aA (T1.out.trans ((Touch.of_ext HB2.out).trans (ht3.mono (fun j _ h=>h.2))));clear hJ3 ht3 hyy HRR))
   go_roundw
   case rel=>exact⟨k+1,T,by omega,by go_num,by rw[tC x y hlt];exact J3.out,T3.out⟩
   case measure=>simp[intOf];omega
  ·obtain rfl:k=4:=by omega
   have J4:Hid (J T (eU x y) wr):=aA (by
    have h:=J1.out
    rw[List.take_of_length_le (by rw[mI];exact Nat.le_refl _)]at h
    exact h)
   clear J1
   go_wp2_with fail
   go_end0
   exact⟨⟨_,rfl⟩,T,J4.out⟩
end Go.Proofs.YtaellcgglldjaaaGreat

namespace Go.Proofs.YtaellcgglldjaaaGreat
open Go.RowKit
attribute [local go_sem] Oper.semAt_some
def cR (W H:Int) (l:List (Int×aB)):List aB:=(l.filter fun q=>inB W H q.2.1 q.2.2).map Prod.snd
theorem pP (W H:Int) (l:List (Int×aB)) (q:Int×aB):cR W H (l++[q])=cR W H l++if inB W H q.2.1 q.2.2=true then[q.2] else[]:=by
 unfold cR
 rw[List.filter_append,List.map_append]
 congr 1
 rw[List.filter_cons]
 split<;>rfl
theorem qQ (W H:Int) (l:List (Int×aB)):(cR W H l).length≤l.length:=by
 unfold cR
 rw[List.length_map]
 exact List.length_filter_le _ _
set_option maxRecDepth 100000 in
set_option maxHeartbeats 1000000 in
theorem aE2 {w:World} (W H x y:Int) (hin:inB W H x y=true):
  Calls Tryz.prog 107 #[.agg #[.int .i64 W, .int .i64 H], .agg #[.int .i64 x, .int .i64 y]] w fun e w'=>
   ∃v,e= .returned (.tuple #[v, .int .i64 0])∧Ext w w'∧Own cellE w' w.heap.size 28 v (cR W H (eU x y)):=by
 have hb:=inB_true.1 hin
 have HI:=aA (fun w'=>fT W H x y w')
 rw[hin]at HI
 have HI2:=aA (fun(x' y':Int) w'=>fT W H x' y' w')
 refine callsIn_wide.1 (callsIn_of_wp_marks (n:=4) Tryz.func107 rfl trivial ((wpIn_wide (n:=4)).2 ?_))
 simp only[Tryz.ntmps107,List.size_toArray,List.length_cons,List.length_nil,Nat.reduceAdd,Nat.reduceSub,Array.replicate_succ,Array.replicate_zero,List.push_toArray,List.append_toArray,List.nil_append,List.cons_append]
 generalize hQ:bodyPostM _ _ _ _ _=Q'
 have HQ:=aA hQ
 clear hQ hin
 go_wp2_with (go_at_call 55;refine(HI.out _).mono ?_;rintro e w1 ⟨rfl,hb1⟩;obtain⟨hc1,hf1⟩:=hb1.cells;have hz1:=hb1.size;(repeat(first|rw[World.size_alloc]at hz1|rw[World.size_drew]at hz1));have z1_0:w.heap.size<w1.heap.size:=(by omega);have z1_1:w.heap.size+1<w1.heap.size:=(by omega))
 refine(aB7 x y _).mono ?_
 rintro e w4 ⟨rfl,hw4⟩
 have h14:Ext w1 w4:=by rw[hw4];exact((Ext.refl _).alloc _).alloc _
 have z4:w4.heap.size=w1.heap.size+2:=by rw[hw4];simp
 have B0:Hid (Blk w4 (w.heap.size) 23 #[.int .i64 W, .int .i64 H]):=aA (by refine Blk.ext ?_ (hb1.trans h14);(repeat' (first|exact Blk.new_ (by simp)|refine Blk.drew ?_|refine Blk.over ?_)))
 have OB:Hid (Blk w4 w1.heap.size 37 #[.slice none 0 0]):=aA (by rw[hw4];exact(Blk.new_ rfl).over)
 have BC:Hid (Blk w4 (w1.heap.size+1) 28 #[.int .i64 x, .int .i64 y]):=aA (by rw[hw4];exact Blk.new_ (by simp))
 have hw1z:w.heap.size+2≤w1.heap.size:=by have:=z1_1;omega
 have HX4:=aA (show Ext w w4 from Ext.trans z_x h14)
 clear hw4 h14 hb1 hc1 hf1 hz1 z1_0 z1_1 HI
 go_wp2_with fail
 have hseq:=wP (w:=w4) (x:=x) (y:=y) (R:=fun k=>k=w1.heap.size+1∨k=w.heap.size) (by omega) (by omega) BC.out (.inl rfl) (fun k hk=>by omega)
 have eg: ∀args w,(callFunc 156 args).run Tryz.prog w= .ok (.enter 156 args) w:=enters_of Tryz.func156 (by kernel_rfl) rfl
 refine(wpIn_wide (n:=4)).1 ?_
 refine wQ (g:= .tmp 14) (p1:=15) (p2:=16) (bs:=8) (u:=fun q:Int×aB=> .int .i64 q.1) (v:=fun q:Int×aB=> .agg #[.int .i64 q.2.1, .int .i64 q.2.2]) (cs:=fun q:Int×aB=> #[.int .i64 q.2.1, .int .i64 q.2.2]) (t:=28) (gf:=156) rfl eg hseq (fun _=>rfl)
  (fun T pre W1=>(∀k,T k→w4.heap.size≤k∧k<W1.heap.size)∧Ext w W1∧w4.heap.size≤W1.heap.size∧ ∃v,W1.heap[w1.heap.size]? =some (.cells #[v] 37 (0,0))∧Own cellE W1 (w4.heap.size+2) 28 v (cR W H pre)∧(∀k,v.ownBlock=some k→ ¬T k)∧Blk W1 w.heap.size 23 #[.int .i64 W, .int .i64 H])
  (fun k hk=>by omega) ?hO ?hA ?hE ?hS ⟨fun _ h=>h.elim,HX4.out,Nat.le_refl _,_,OB.out,Own.nil _ _ _ _,fun _ _ h=>h,B0.out⟩ ?assign ?body ?done
 case hO=>
  rintro T pre W1 W2 ⟨i1,i2,i3,v,i4,i5,i6,i7⟩ tt
  exact⟨fun k hk=>⟨(i1 k hk).1,Nat.lt_of_lt_of_le (i1 k hk).2 tt.size⟩,((Touch.of_ext (S:=fun _=>False) i2).after tt (fun k hk h=>by omega)).ext,Nat.le_trans i3 tt.size,v,(tt.block _ (by omega) (fun h=>by omega)).trans i4,Own.touch i5 tt (fun k hk h=>by have:=aG i5 hk;omega),i6,i7.touch tt (fun h=>by omega)⟩
 case hA=>
  rintro T pre W1 o ⟨i1,i2,i3,v,i4,i5,i6,i7⟩
  exact⟨fun k hk=>hk.elim (fun h=>⟨(i1 k h).1,by have:=(i1 k h).2;simp;omega⟩) (fun e=>⟨by omega,by simp;omega⟩),i2.alloc _,by simp;omega,v,(((Ext.refl W1).alloc o).block (by omega)).trans i4,i5.alloc _,fun k hk h=>h.elim (i6 k hk) (fun e=>by have:=aG i5 hk;omega),i7.over⟩
 case hE=>
  rintro T pre W1 W2 ⟨i1,i2,i3,v,i4,i5,i6,i7⟩ e
  exact⟨fun k hk=>⟨(i1 k hk).1,Nat.lt_of_lt_of_le (i1 k hk).2 e.size⟩,i2.trans e,Nat.le_trans i3 e.size,v,(e.block (by omega)).trans i4,i5.ext e,i6,i7.ext e⟩
 case hS=>
  rintro T pre W1 q u ⟨i1,i2,i3,v,i4,i5,i6,i7⟩ hq
  have tt:Touch (fun k=>k=q.block) W1 (W1.setCell q u):=(Touch.refl (fun k=>k=q.block) W1).setCell (.inl rfl) u
  have hqb:=(i1 _ hq).1
  exact⟨fun k hk=>⟨(i1 k hk).1,Nat.lt_of_lt_of_le (i1 k hk).2 tt.size⟩,i2.setCell (by omega) _,Nat.le_trans i3 tt.size,v,(tt.block _ (by omega) (fun h=>by omega)).trans i4,Own.touch i5 tt (fun k hk h=>i6 k hk (by rw[h];exact hq)),i6,i7.touch tt (fun h=>by omega)⟩
 case assign=>
  intro q W1 K hK
  simp only[List.setIfInBounds_toArray,List.set_cons_zero,List.set_cons_succ]at hK⊢
  gi_wp2
  exact hK W1.heap.size _ z_x (fV _ _) (Nat.le_refl _)
 case body=>
  rintro T pre q Bx W1 ⟨i1,i2,i3,v,i4,i5,i6,i7⟩ hb hz hz2 hpre
  simp only[List.setIfInBounds_toArray,List.set_cons_zero,List.set_cons_succ]
  have BB:Hid (Blk W1 Bx 28 #[.int .i64 q.2.1, .int .i64 q.2.2]):=aA hb
  have BS:=aA i7
  have HI3:=aA (fun w'=>HI2.out q.2.1 q.2.2 w')
  obtain⟨d,qx,qy⟩:=q
  simp only at BB HI3⊢
  have hsn:=pP W H pre (d,(qx,qy))
  simp only at hsn
  have hlen:(cR W H pre).length+1≤5:=by
   have h1:=qQ W H pre
   obtain⟨rr,hrr⟩:=hpre
   have:=congrArg List.length hrr
   rw[mI]at this
   simp at this
   omega
  have HSN:=aA hsn
  have I1:=aA i1
  have I2:=aA i2
  have I5:=aA i5
  have I6:=aA i6
  have I4:=aA i4
  have ZZ:=aA (And.intro z4 hz)
  have hz4:w1.heap.size+2≤w4.heap.size:=by omega
  have zBx:=BB.out.lt
  have q0:=BB.out.at 0 rfl;have q1:=BB.out.at 1 rfl;have qz:=BB.out.lt
  have p0:=BS.out.at 0 rfl;have p1:=BS.out.at 1 rfl;have pz:=BS.out.lt
  clear hb i4 i5 i6 i2 i7 hsn hpre z4 i1
  by_cases hq:inB W H qx qy=true
  ·have HQ2:=aA hq
   rw[hq]at HI3
   clear hq
   have hz2':=hz2
   gi_wp2_with (first
    |(refine⟨trivial,?_⟩;gi_at_call 55;refine(callsIn_wide.2 (HI3.out _)).mono ?_;rintro e w5 ⟨rfl,hb5⟩;have hz5:=hb5.size;have q0:=(hb5.cell (p:=⟨Bx,0,none⟩) zBx).trans q0;have q1:=(hb5.cell (p:=⟨Bx,1,none⟩) zBx).trans q1;have J4:Hid (Blk w5 w1.heap.size 37 #[v]):=aA (Blk.ext I4.out hb5);have o0:=J4.out.at 0 rfl;have J5:=aA (I5.out.ext hb5);have HB5:=aA hb5;have hbase:w4.heap.size+2≤w5.heap.size:=(by omega);clear hb5)
    |(gi_at_builtin;refine iW cellE T_cells rfl _ _ rfl (w4.heap.size+2) _ _ (cR W H pre) rfl J5.out (qx,qy) _ _ rfl _ rfl rfl (by omega) (by omega) hbase ?_;intro g' cap' w10 hown' ht10 hloc;have hob:w10.heap[w1.heap.size]? =some (.cells #[v] 37 (0,0)):=(ht10.block _ (by omega) (fun e=>by have:=aG J5.out e;omega)).trans J4.out;have hoc:w10.cell? ⟨w1.heap.size,0,none⟩=some v:=(by simp[World.cell?,hob]);have hof:w10.frozen? ⟨w1.heap.size,0,none⟩=false:=(by simp[World.frozen?,hob]);have HOB:=aA hob;have HO':=aA hown';have HT':=aA ht10;have HLO:=aA hloc;clear hown' ht10 hloc hob))
   have ht10:=HT'.out
   have hzg:=ht10.size
   have hb5:=HB5.out
   have ho':w4.heap.size+2≤g'∧g'<w10.heap.size:=aG HO'.out rfl
   have tt10:Touch (fun k=>(v.ownBlock=some k)) W1 w10:=(Touch.of_ext hb5).trans (ht10.mono (fun k _ h=>h))
   have tt:Touch (fun k=> ¬T k∧ ¬(k=w1.heap.size+1∨k=w.heap.size)∧k≠w4.heap.size∧k≠w4.heap.size+1) W1 (w10.setCell ⟨w1.heap.size,0,none⟩ (.slice (some ⟨g',0,none⟩) ((cR W H pre).length+1) cap')):=by
    refine(tt10.mono (fun k _ hk=>⟨I6.out k hk,fun e=> ?_,fun e=> ?_,fun e=> ?_⟩)).setCell (p:=⟨w1.heap.size,0,none⟩) (.inl ⟨fun hT=> ?_,fun e=> ?_,?_,?_⟩) _
    ·have:=(aG I5.out hk).1;omega
    ·have:=(aG I5.out hk).1;omega
    ·have:=(aG I5.out hk).1;omega
    ·have:=(I1.out _ hT).1;have e2:w4.heap.size≤w1.heap.size:=this;omega
    ·have e2:w1.heap.size=w1.heap.size+1∨w1.heap.size=w.heap.size:=e;omega
    ·show w1.heap.size≠_;omega
    ·show w1.heap.size≠_;omega
   have tts:=tt10.size
   have ts:Touch (fun k=>k=w1.heap.size) w10 (w10.setCell ⟨w1.heap.size,0,none⟩ (.slice (some ⟨g',0,none⟩) ((cR W H pre).length+1) cap')):=(Touch.refl (fun k=>k=w1.heap.size) w10).setCell (p:=⟨w1.heap.size,0,none⟩) (.inl rfl) _
   refine⟨⟨fun k hk=>⟨(I1.out k hk).1,Nat.lt_of_lt_of_le (I1.out k hk).2 tts⟩,?_,Nat.le_trans i3 tts, .slice (some ⟨g',0,none⟩) ((cR W H pre).length+1) cap',?_,?_,fun k hk hT=> ?_,?_⟩,?_⟩
   ·refine(((Touch.of_ext (S:=fun _=>False) I2.out).after tt10 (fun k hk h=> ?_)).after ts (fun k hk h=> ?_)).ext
    ·have:=(aG I5.out h).1;omega
    ·have e2:k=w1.heap.size:=h;omega
   ·have hbk:Blk w10 w1.heap.size 37 #[v]:=HOB.out
    have:=hbk.set_ 0 (.slice (some ⟨g',0,none⟩) ((cR W H pre).length+1) cap')
    unfold Blk at this
    simpa using this
   ·rw[HSN.out,if_pos HQ2.out]
    exact Own.touch HO'.out ts (fun k hk e=>by simp only[Value.ownBlock,Option.some.injEq]at hk;subst hk;omega)
   ·simp only[Value.ownBlock,Option.some.injEq]at hk
    subst hk
    rcases HLO.out with h|h
    ·exact I6.out _ h hT
    ·have h1:=(I1.out _ hT).2
     have h2:=hb5.size
     omega
   ·exact(BS.out.touch tt10 (fun h=>by have:=(aG I5.out h).1;omega)).touch ts (fun h=>by have e2:w.heap.size=w1.heap.size:=h;omega)
   ·refine tt.mono fun k _ h=> ?_
    simpa using h
  ·have hq2:inB W H qx qy=false:=by simpa using hq
   have HQ2:=aA hq2
   rw[hq2]at HI3
   clear hq hq2
   gi_wp2_with (refine⟨trivial,?_⟩;gi_at_call 55;refine(callsIn_wide.2 (HI3.out _)).mono ?_;rintro e w5 ⟨rfl,hb5⟩;have HB5:=aA hb5;clear hb5)
   have hb5:=HB5.out
   refine⟨⟨fun k hk=>⟨(I1.out k hk).1,Nat.lt_of_lt_of_le (I1.out k hk).2 hb5.size⟩,I2.out.trans hb5,Nat.le_trans i3 hb5.size,v,(hb5.block (by omega)).trans I4.out,?_,I6.out,BS.out.ext hb5⟩,Touch.of_ext hb5⟩
   rw[HSN.out,if_neg (by rw[HQ2.out];simp),List.append_nil]
   exact I5.out.ext hb5
 case done=>
  rintro T W1 ⟨i1,i2,i3,v,i4,i5,i6,i7⟩ hD
  dsimp only
  have o0:W1.cell? ⟨w1.heap.size,0,none⟩=some v:=by simp[World.cell?,i4]
  have I5:=aA i5
  have ID:=aA hD
  have I2:=aA i2
  have hzz:=i3
  clear i5 hD i2 i4 i1 i6 i7
  go_wp2_with fail
  rw[←HQ.out]
  refine⟨by simp, .inl ⟨_,_,rfl,run_takeDeferred ID.out,?_⟩⟩
  refine⟨.tuple #[v, .int .i64 0],by simp[results,Tryz.results107,go_sem],?_⟩
  have t6:Touch (fun j=>j=w4.heap.size) W1 (W1.putObj w4.heap.size (.deferred none)):=cI _ _
  refine⟨v,rfl,((Touch.of_ext (S:=fun _=>False) I2.out).after t6 (fun k hk e=>by omega)).ext,?_⟩
  exact Own.lower (Own.touch I5.out t6 (fun k hk e=>by have:=(aG I5.out hk).1;omega)) (by omega)
end Go.Proofs.YtaellcgglldjaaaGreat

namespace Go.Proofs.YtaellcgglldjaaaGreat
open Go.RowKit
def eI (n:Int):Int:=if n<0 then-n else n
def dD (x y tx ty:Int):Int:=eI (x-tx)+eI (y-ty)
set_option maxRecDepth 100000 in
theorem aE9 (x y tx ty:Int) (w:World) (hx:0≤x∧x≤1000) (hy:0≤y∧y≤1000) (htx:0≤tx∧tx≤1000) (hty:0≤ty∧ty≤1000):
  Calls Tryz.prog 180 #[.agg #[.int .i64 x, .int .i64 y], .agg #[.int .i64 tx, .int .i64 ty]] w fun e w'=>e= .returned (.tuple #[.int .i64 (eI (x-tx)), .int .i64 (eI (y-ty)), .int .i64 0])∧Ext w w':=by
 have s1:iH x y=true:=by simp only[iH,Bool.and_eq_true,kE];omega
 have s2:iH tx ty=true:=by simp only[iH,Bool.and_eq_true,kE];omega
 have H1:=aA (fun w'=>nW x y w')
 have H2:=aA (fun w'=>nW tx ty w')
 rw[s1]at H1
 rw[s2]at H2
 have e1:=aA (show IntKind.i64.wrap ((if x<tx then tx else x)-if tx<x then tx else x)=eI (x-tx) by
  rw[show((if x<tx then tx else x)-if tx<x then tx else x)=eI (x-tx) by unfold eI;split<;>split<;>split<;>omega]
  exact IntWalk.i64_in _ (by unfold eI;split<;>omega))
 have e2:=aA (show IntKind.i64.wrap ((if y<ty then ty else y)-if ty<y then ty else y)=eI (y-ty) by
  rw[show((if y<ty then ty else y)-if ty<y then ty else y)=eI (y-ty) by unfold eI;split<;>split<;>split<;>omega]
  exact IntWalk.i64_in _ (by unfold eI;split<;>omega))
 clear s1 s2
 go_enter Tryz.func180,Tryz.ntmps180
 go_wp2_with fail
 refine(H1.out _).mono ?_
 rintro e w1 ⟨rfl,hb1⟩
 obtain⟨hc1,hf1⟩:=hb1.cells;have hz1:=hb1.size;(repeat(first|rw[World.size_alloc]at hz1|rw[World.size_drew]at hz1));have z1_0:w.heap.size<w1.heap.size:=(by omega);have z1_1:w.heap.size+1<w1.heap.size:=(by omega)
 go_wp2_with fail
 refine(H2.out _).mono ?_
 rintro e w2 ⟨rfl,hb2⟩
 obtain⟨hc2,hf2⟩:=hb2.cells;have hz2:=hb2.size;(repeat(first|rw[World.size_alloc]at hz2|rw[World.size_drew]at hz2));have z2_0:w.heap.size<w2.heap.size:=(by omega);have z2_1:w.heap.size+1<w2.heap.size:=(by omega)
 go_wp2_with fail
 refine aF (S:=(fun W=>(∀b o,b<w2.heap.size→W.cell? ⟨b,o,none⟩=w2.cell? ⟨b,o,none⟩)∧Ext w2 W)) [(0,true),(1,true),(2,true),(3,true),(4,true),(5,true),(6,true),(7,true),(8,true),(9,true),(10,true),(11,true),(12,true),(13,true),(14,true),(15,true),(16,true),(17,true),(18,true),(19,true),(20,true),(21,true),(22,true),(23,true),(24,true)] (by kernel_rfl) (by kernel_rfl) (by kernel_rfl) (by decide) (fun _ _ d _ _ h=>by cases d<;>exact h) (by first|with_reducible exact aI _|exact aE z_x) (fun hHeld=> ?_)
 iterate 25 (refine SeqH.fr1 ?_;try simp only[Act.put,z_3,z_4,z_5])
 refine SeqH.done ?_
 (try rw[show max x tx=(if x<tx then tx else x) from by rw[Int.max_def];split<;>split<;>omega,show min x tx=(if tx<x then tx else x) from by rw[Int.min_def];split<;>split<;>omega,show max y ty=(if y<ty then ty else y) from by rw[Int.max_def];split<;>split<;>omega,show min y ty=(if ty<y then ty else y) from by rw[Int.min_def];split<;>split<;>omega])
 rw[e1.out,e2.out]
 generalize (if x<tx then tx else x)=m1
 generalize (if tx<x then tx else x)=m2
 generalize (if y<ty then ty else y)=m3
 generalize (if ty<y then ty else y)=m4
 clear e1 e2
 go_wp2_with fail
 exact bodyPost_ret (v:= .tuple #[.int .i64 (eI (x-tx)), .int .i64 (eI (y-ty)), .int .i64 0]) (by simp[results,Tryz.results180,go_sem, *]) rfl ⟨rfl,z_x⟩
theorem pZ {n:Int} (h: -1000≤n∧n≤1000):0≤eI n∧eI n≤1000:=by unfold eI;split<;>omega
theorem aKm {x y tx ty:Int} (hx:0≤x∧x≤1000) (hy:0≤y∧y≤1000) (htx:0≤tx∧tx≤1000) (hty:0≤ty∧ty≤1000):0≤dD x y tx ty∧dD x y tx ty≤2000:=by
 have h1:=pZ (n:=x-tx) (by omega)
 have h2:=pZ (n:=y-ty) (by omega)
 unfold dD
 omega
theorem aGx (x y tx ty:Int) (w:World) (hx:0≤x∧x≤1000) (hy:0≤y∧y≤1000) (htx:0≤tx∧tx≤1000) (hty:0≤ty∧ty≤1000):
  Calls Tryz.prog 155 #[.agg #[.int .i64 x, .int .i64 y], .agg #[.int .i64 tx, .int .i64 ty]] w fun e w'=>e= .returned (.tuple #[.int .i64 (dD x y tx ty), .int .i64 0])∧Ext w w':=by
 have H1:=aA (fun w'=>aE9 x y tx ty w' hx hy htx hty)
 have b1:=pZ (n:=x-tx) (by omega)
 have b2:=pZ (n:=y-ty) (by omega)
 unfold dD
 generalize eI (x-tx)=p at *
 generalize eI (y-ty)=q at *
 go_enter Tryz.func155,Tryz.ntmps155
 go_wp2_with fail
 refine(H1.out _).mono ?_
 rintro e w1 ⟨rfl,hb1⟩
 go_wp2_with fail
 exact bodyPost_ret (v:= .tuple #[.int .i64 (p+q), .int .i64 0]) (by simp[results,Tryz.results155,go_sem, *]) rfl ⟨rfl,z_x⟩
def gZ (w:World) (sb:Nat) (W H:Int) (a:Option Addr) (n c:Nat) (tx ty:Int) (h mg mc:Nat) (k:Int):Prop:=
 Blk w sb 138 #[.int .i64 W, .int .i64 H, .slice a n c, .int .i64 tx, .int .i64 ty, .pointer (some ⟨h,0,none⟩), .map (some mg), .map (some mc), .int .i64 k]
theorem jY {w:World} {sb:Nat} {W H:Int} {a:Option Addr} {n c:Nat} {tx ty:Int} {h mg mc:Nat} {k:Int} (S:gZ w sb W H a n c tx ty h mg mc k) (x y:Int) (hx:0≤x∧x≤1000) (hy:0≤y∧y≤1000) (hW:0≤W∧W≤1000):
  Calls Tryz.prog 104 #[.pointer (some ⟨sb,0,none⟩), .agg #[.int .i64 x, .int .i64 y]] w fun e w'=>e= .returned (.int .i64 (y*W+x))∧Ext w w':=by
 have hw0:=S.at 0 rfl
 have hz:=Blk.lt S
 have m0:=cL (a:=y) (b:=W) (A:=1000) (B:=1000) (by omega) (by omega) (by omega) (by omega)
 have k1:IntKind.i64.wrap (y*W)=y*W:=IntWalk.i64_in _ (by omega)
 have k2:IntKind.i64.wrap (y*W+x)=y*W+x:=IntWalk.i64_in _ (by omega)
 clear S m0
 go_enter Tryz.func104,Tryz.ntmps104
 go_wp2_with fail
 obtain⟨w1,hw1⟩: ∃w1,w1=w.alloc (.cells #[.int .i64 x, .int .i64 y] 28):=⟨_,rfl⟩
 have hx1:Ext w w1:=by rw[hw1];exact(Ext.refl _).alloc _
 have B:=aA (show Blk w1 w.heap.size 28 #[.int .i64 x, .int .i64 y] by rw[hw1];exact Blk.new_ rfl)
 have q:=(hx1.cell (p:=⟨sb,0,none⟩) hz).trans hw0
 have hz1:=Nat.lt_of_lt_of_le hz hx1.size
 rw[←hw1]
 have b0:=B.out.at 0 rfl;have b1:=B.out.at 1 rfl;have bz:=B.out.lt
 clear hw1 hw0
 refine aF (S:=(fun W=>(∀b o,b<w1.heap.size→W.cell? ⟨b,o,none⟩=w1.cell? ⟨b,o,none⟩)∧Ext w1 W)) [(0,true),(1,true),(2,true),(3,true),(4,true),(5,true),(6,true),(7,true),(8,true),(9,true),(10,true),(11,true),(12,true)] (by kernel_rfl) (by kernel_rfl) (by kernel_rfl) (by decide) (fun _ _ d _ _ h=>by cases d<;>exact h) (by first|with_reducible exact aI _|exact aE z_x) (fun hHeld=> ?_)
 iterate 13 (refine SeqH.fr1 ?_;try simp only[Act.put,z_3,z_4,z_5])
 refine SeqH.done ?_
 go_wp2_with fail
 go_ret
 exact⟨rfl,hx1.trans z_x⟩
theorem pR {w:World} {sb:Nat} {W H:Int} {a:Option Addr} {l:List Int} {c:Nat} {tx ty:Int} {h mg mc:Nat} {k:Int} (S:gZ w sb W H a l.length c tx ty h mg mc k) (hm:bM W H=true) (hl:(l.length:Int)=W*H) (hr:Row16 w a l) (hu:cN l) (x y:Int) (h1:0≤x) (h2:x<W) (h3:0≤y) (h4:y<H):
  Calls Tryz.prog 59 #[.pointer (some ⟨sb,0,none⟩), .agg #[.int .i64 x, .int .i64 y]] w fun e w'=>e= .returned (.int .u64 (aO l W (x,y)))∧Ext w w':=by
 obtain⟨m1,m2,m3,m4⟩:=mayB_true.1 hm
 obtain⟨b,off,rfl,hb,hc⟩:=fW hr hl h1 h2 h3 h4
 have cb:=cC hu W (x,y)
 have ib:=iT h1 h2 h3 h4
 have HN:=aA (fun(w':World) (hx:Ext w w')=>jY (Blk.ext S hx) x y (by omega) (by omega) (by omega))
 have q2:=S.at 2 rfl
 have hz:=Blk.lt S
 have ki:((aC W (x,y):Nat):Int)=y*W+x:=bN h1 (by omega) h3
 rw[←ki]at HN
 rw[show(y*W+x).toNat=aC W (x,y) from rfl]at hc
 have kl:((aC W (x,y):Nat):Int)<(l.length:Int):=by omega
 generalize aC W (x,y)=v at *
 generalize aO l W (x,y)=cst at *
 obtain⟨n,hn⟩: ∃n,l.length=n:=⟨_,rfl⟩
 rw[hn]at q2 kl
 have k3:IntKind.u64.wrap cst=cst:=by rw[IntKind.wrap_u64];omega
 clear S hm hl hr hu h1 h2 h3 h4 ib hn m1 m2 m3 m4 ki
 go_enter Tryz.func59,Tryz.ntmps59
 go_wp2_with fail
 obtain⟨w1,hw1⟩: ∃w1,w1=w.alloc (.cells #[.int .i64 x, .int .i64 y] 28):=⟨_,rfl⟩
 have hx1:Ext w w1:=by rw[hw1];exact(Ext.refl _).alloc _
 have B:=aA (show Blk w1 w.heap.size 28 #[.int .i64 x, .int .i64 y] by rw[hw1];exact Blk.new_ rfl)
 have q:=(hx1.cell (p:=⟨sb,2,none⟩) hz).trans q2
 have hc1:=(hx1.cell (p:=⟨b,off+v,none⟩) hb).trans hc
 have hz1:=Nat.lt_of_lt_of_le hz hx1.size
 have hb1:=Nat.lt_of_lt_of_le hb hx1.size
 rw[←hw1]
 have b0:=B.out.at 0 rfl;have b1:=B.out.at 1 rfl;have bz:=B.out.lt
 clear hw1 q2 hc
 refine aF (S:=(fun W=>(∀b o,b<w1.heap.size→W.cell? ⟨b,o,none⟩=w1.cell? ⟨b,o,none⟩)∧Ext w1 W)) [(0,true),(1,true),(2,true),(3,true),(4,true),(5,true),(6,true),(7,false),(8,true),(9,true),(10,true),(11,true)] (by kernel_rfl) (by kernel_rfl) (by kernel_rfl) (by decide) (fun _ _ d _ _ h=>by cases d<;>exact h) (by first|with_reducible exact aI _|exact aE z_x) (fun hHeld=> ?_)
 iterate 7 (refine SeqH.fr1 ?_;try simp only[Act.put,z_3,z_4,z_5])
 (apply SeqH.step;(·(simp only[z_0,z_1,z_2];rfl));intro K hK;go_simp;refine(HN.out _ (hx1.trans z_x)).mono ?_;rintro e w2 ⟨rfl,hb2⟩;go_wp2_with fail;refine hK.out _ _ (aE z_x) (fun hHeld=> ?_);clear hK K;try simp only[Act.put,z_3,z_4,z_5])
 iterate 4 (refine SeqH.fr1 ?_;try simp only[Act.put,z_3,z_4,z_5])
 refine SeqH.done ?_
 have hx2:=hx1.trans hHeld.2
 go_wp2_with fail
 go_ret
 exact⟨rfl,hx2⟩
end Go.Proofs.YtaellcgglldjaaaGreat

