/- Part of a proof: StarB StarC StarD. -/
import Derived.Test.YtaellcgglldjaaaGreatHierFindsQ35
import Derived.Test.YtaellcgglldjaaaGreatHierFindsQ01
import Derived.RangeFuncBox
import Derived.OwnWalkIn
import Derived.TacticsInMore
import Derived.Test.YtaellcgglldjaaaGreatHierFindsQ18
set_option linter.all false
set_option linter.unusedVariables false
set_option linter.unusedSimpArgs false
namespace Go.Proofs.YtaellcgglldjaaaGreat
open Go.RowKit
attribute [local go_sem] Oper.semAt_some
def dB (W H:Int) (l:List (Int×aB)):List aB:=(l.filter fun q=>inB W H q.2.1 q.2.2).map Prod.snd
theorem qD (W H:Int) (l:List (Int×aB)) (q:Int×aB):dB W H (l++[q])=dB W H l++if inB W H q.2.1 q.2.2=true then[q.2] else[]:=by
 unfold dB
 rw[List.filter_append,List.map_append]
 congr 1
 rw[List.filter_cons]
 split<;>rfl
theorem rM (W H:Int) (l:List (Int×aB)):(dB W H l).length≤l.length:=by
 unfold dB
 rw[List.length_map]
 exact List.length_filter_le _ _
set_option maxRecDepth 100000 in
set_option maxHeartbeats 4000000 in
theorem aDx {w:World} (W H x y:Int) (hin:inB W H x y=true):
  Calls Tryz.prog 107 #[.agg #[.int .i64 W, .int .i64 H], .agg #[.int .i64 x, .int .i64 y]] w fun e w'=>
   ∃v,e= .returned (.tuple #[v, .int .i64 0])∧Ext w w'∧Own cellE w' w.heap.size 28 v (dB W H (fF x y)):=by
 have hb:=inB_true.1 hin
 have HI:=aA (fun w'=>gK W H x y w')
 rw[hin]at HI
 have HI2:=aA (fun(x' y':Int) w'=>gK W H x' y' w')
 refine callsIn_wide.1 (callsIn_of_wp_marks (n:=4) Tryz.func107 rfl trivial ((wpIn_wide (n:=4)).2 ?_))
 simp only[Tryz.ntmps107,List.size_toArray,List.length_cons,List.length_nil,Nat.reduceAdd,Nat.reduceSub,Array.replicate_succ,Array.replicate_zero,List.push_toArray,List.append_toArray,List.nil_append,List.cons_append]
 generalize hQ:bodyPostM _ _ _ _ _=Q'
 have HQ:=aA hQ
 clear hQ hin
 go_wp2_with (go_at_call 55;refine(HI.out _).mono ?_;rintro e w1 ⟨rfl,hb1⟩;obtain⟨hc1,hf1⟩:=hb1.cells;have hz1:=hb1.size;(try simp only[zS]at hz1);have z1_0:w.heap.size<w1.heap.size:=(by omega);have z1_1:w.heap.size+1<w1.heap.size:=(by omega))
 refine(aBj x y _).mono ?_
 rintro e w4 ⟨rfl,hw4⟩
 have h14:Ext w1 w4:=by rw[hw4];exact((Ext.refl _).alloc _).alloc _
 have z4:w4.heap.size=w1.heap.size+2:=by rw[hw4];simp
 have B0:Hid (Blk w4 (w.heap.size) 23 #[.int .i64 W, .int .i64 H]):=aA (by refine Blk.ext ?_ (hb1.trans h14);(repeat' (first|exact Blk.new_ (by simp)|refine Blk.drew ?_|refine Blk.over ?_)))
 have OB:Hid (Blk w4 w1.heap.size 37 #[.slice none 0 0]):=aA (by rw[hw4];exact(Blk.new_ rfl).over)
 have BC:Hid (Blk w4 (w1.heap.size+1) 28 #[.int .i64 x, .int .i64 y]):=aA (by rw[hw4];exact Blk.new_ (by simp))
 have hw1z:w.heap.size+2≤w1.heap.size:=by have:=z1_1;omega
 have HX4:=aA (show Ext w w4 from Ext.trans z_x h14)
 clear hw4 h14 hb1 hc1 hf1 hz1 z1_0 z1_1 HI
 go_wp2_with fail
 have hseq:=xD (w:=w4) (x:=x) (y:=y) (R:=fun k=>k=w1.heap.size+1∨k=w.heap.size) (by omega) (by omega) BC.out (.inl rfl) (fun k hk=>by omega)
 have eg: ∀args w,(callFunc 156 args).run Tryz.prog w= .ok (.enter 156 args) w:=enters_of Tryz.func156 (by kernel_rfl) rfl
 refine(wpIn_wide (n:=4)).1 ?_
 refine xK (g:= .tmp 14) (p1:=15) (p2:=16) (bs:=8) (u:=fun q:Int×aB=> .int .i64 q.1) (v:=fun q:Int×aB=> .agg #[.int .i64 q.2.1, .int .i64 q.2.2]) (cs:=fun q:Int×aB=> #[.int .i64 q.2.1, .int .i64 q.2.2]) (t:=28) (gf:=156) rfl eg hseq (fun _=>rfl)
  (fun T pre W1=>(∀k,T k→w4.heap.size≤k∧k<W1.heap.size)∧Ext w W1∧w4.heap.size≤W1.heap.size∧ ∃v,W1.heap[w1.heap.size]? =some (.cells #[v] 37 (0,0))∧Own cellE W1 (w4.heap.size+2) 28 v (dB W H pre)∧(∀k,v.ownBlock=some k→ ¬T k)∧Blk W1 w.heap.size 23 #[.int .i64 W, .int .i64 H])
  (fun k hk=>by omega) ?hO ?hA ?hE ?hS ⟨fun _ h=>h.elim,HX4.out,Nat.le_refl _,_,OB.out,Own.nil _ _ _ _,fun _ _ h=>h,B0.out⟩ ?assign ?body ?done
 case hO=>
  rintro T pre W1 W2 ⟨i1,i2,i3,v,i4,i5,i6,i7⟩ tt
  exact⟨fun k hk=>⟨(i1 k hk).1,Nat.lt_of_lt_of_le (i1 k hk).2 tt.size⟩,((Touch.of_ext (S:=fun _=>False) i2).after tt (fun k hk h=>by omega)).ext,Nat.le_trans i3 tt.size,v,(tt.block _ (by omega) (fun h=>by omega)).trans i4,Own.touch i5 tt (fun k hk h=>by have:=aF i5 hk;omega),i6,i7.touch tt (fun h=>by omega)⟩
 case hA=>
  rintro T pre W1 o ⟨i1,i2,i3,v,i4,i5,i6,i7⟩
  exact⟨fun k hk=>hk.elim (fun h=>⟨(i1 k h).1,by have:=(i1 k h).2;simp;omega⟩) (fun e=>⟨by omega,by simp;omega⟩),i2.alloc _,by simp;omega,v,(((Ext.refl W1).alloc o).block (by omega)).trans i4,i5.alloc _,fun k hk h=>h.elim (i6 k hk) (fun e=>by have:=aF i5 hk;omega),i7.over⟩
 case hE=>
  rintro T pre W1 W2 ⟨i1,i2,i3,v,i4,i5,i6,i7⟩ e
  exact⟨fun k hk=>⟨(i1 k hk).1,Nat.lt_of_lt_of_le (i1 k hk).2 e.size⟩,i2.trans e,Nat.le_trans i3 e.size,v,(e.block (by omega)).trans i4,i5.ext e,i6,i7.ext e⟩
 case hS=>
  rintro T pre W1 q u ⟨i1,i2,i3,v,i4,i5,i6,i7⟩ hq
  have tt:Touch (fun k=>k=q.block) W1 (W1.setCell q u):=(Touch.refl (fun k=>k=q.block) W1).setCell (.inl rfl) u
  have hqb:=(i1 _ hq).1
  exact⟨fun k hk=>⟨(i1 k hk).1,Nat.lt_of_lt_of_le (i1 k hk).2 tt.size⟩,i2.setCell (by omega) _,Nat.le_trans i3 tt.size,v,(tt.block _ (by omega) (fun h=>by omega)).trans i4,Own.touch i5 tt (fun k hk h=>i6 k hk (by rw[h];exact hq)),i6,i7.touch tt (fun h=>by omega)⟩
 case assign=>
  intro q W1 K hK
  simp only[List.setIfInBounds_toArray,List.set_cons_zero,List.set_cons_succ]at hK⊢
  gi_wp2
  exact hK W1.heap.size _ z_x (kC _ _) (Nat.le_refl _)
 case body=>
  rintro T pre q Bx W1 ⟨i1,i2,i3,v,i4,i5,i6,i7⟩ hb hz hz2 hpre
  simp only[List.setIfInBounds_toArray,List.set_cons_zero,List.set_cons_succ]
  have BB:Hid (Blk W1 Bx 28 #[.int .i64 q.2.1, .int .i64 q.2.2]):=aA hb
  have BS:=aA i7
  have HI3:=aA (fun w'=>HI2.out q.2.1 q.2.2 w')
  obtain⟨d,qx,qy⟩:=q
  simp only at BB HI3⊢
  have hsn:=qD W H pre (d,(qx,qy))
  simp only at hsn
  have hlen:(dB W H pre).length+1≤5:=by
   have h1:=rM W H pre
   obtain⟨rr,hrr⟩:=hpre
   have:=congrArg List.length hrr
   rw[mY]at this
   simp at this
   omega
  have HSN:=aA hsn
  have I1:=aA i1
  have I2:=aA i2
  have I5:=aA i5
  have I6:=aA i6
  have I4:=aA i4
  have ZZ:=aA (And.intro z4 hz)
  have hz4:w1.heap.size+2≤w4.heap.size:=by omega
  have zBx:=BB.out.lt
  have q0:=BB.out.at 0 rfl;have q1:=BB.out.at 1 rfl;have qz:=BB.out.lt
  have p0:=BS.out.at 0 rfl;have p1:=BS.out.at 1 rfl;have pz:=BS.out.lt
  clear hb i4 i5 i6 i2 i7 hsn hpre z4 i1
  by_cases hq:inB W H qx qy=true
  ·have HQ2:=aA hq
   rw[hq]at HI3
   clear hq
   have hz2':=hz2
   gi_wp2_with (first
    |(refine⟨trivial,?_⟩;gi_at_call 55;refine(callsIn_wide.2 (HI3.out _)).mono ?_;rintro e w5 ⟨rfl,hb5⟩;have hz5:=hb5.size;have q0:=(hb5.cell (p:=⟨Bx,0,none⟩) zBx).trans q0;have q1:=(hb5.cell (p:=⟨Bx,1,none⟩) zBx).trans q1;have J4:Hid (Blk w5 w1.heap.size 37 #[v]):=aA (Blk.ext I4.out hb5);have o0:=J4.out.at 0 rfl;have J5:=aA (I5.out.ext hb5);have HB5:=aA hb5;have hbase:w4.heap.size+2≤w5.heap.size:=(by omega);clear hb5)
    |(gi_at_builtin;refine nJ cellE T_cells rfl _ _ rfl (w4.heap.size+2) _ _ (dB W H pre) rfl J5.out (qx,qy) _ _ rfl _ rfl rfl (by omega) (by omega) hbase ?_;intro g' cap' w10 hown' ht10 hloc;have hob:w10.heap[w1.heap.size]? =some (.cells #[v] 37 (0,0)):=(ht10.block _ (by omega) (fun e=>by have:=aF J5.out e;omega)).trans J4.out;have hoc:w10.cell? ⟨w1.heap.size,0,none⟩=some v:=(by simp[World.cell?,hob]);have hof:w10.frozen? ⟨w1.heap.size,0,none⟩=false:=(by simp[World.frozen?,hob]);have HOB:=aA hob;have HO':=aA hown';have HT':=aA ht10;have HLO:=aA hloc;clear hown' ht10 hloc hob))
   have ht10:=HT'.out
   have hzg:=ht10.size
   have hb5:=HB5.out
   have ho':w4.heap.size+2≤g'∧g'<w10.heap.size:=aF HO'.out rfl
   have tt10:Touch (fun k=>(v.ownBlock=some k)) W1 w10:=(Touch.of_ext hb5).trans (ht10.mono (fun k _ h=>h))
   have tt:Touch (fun k=> ¬T k∧ ¬(k=w1.heap.size+1∨k=w.heap.size)∧k≠w4.heap.size∧k≠w4.heap.size+1) W1 (w10.setCell ⟨w1.heap.size,0,none⟩ (.slice (some ⟨g',0,none⟩) ((dB W H pre).length+1) cap')):=by
    refine(tt10.mono (fun k _ hk=>⟨I6.out k hk,fun e=> ?_,fun e=> ?_,fun e=> ?_⟩)).setCell (p:=⟨w1.heap.size,0,none⟩) (.inl ⟨fun hT=> ?_,fun e=> ?_,?_,?_⟩) _
    ·have:=(aF I5.out hk).1;omega
    ·have:=(aF I5.out hk).1;omega
    ·have:=(aF I5.out hk).1;omega
    ·have:=(I1.out _ hT).1;have e2:w4.heap.size≤w1.heap.size:=this;omega
    ·have e2:w1.heap.size=w1.heap.size+1∨w1.heap.size=w.heap.size:=e;omega
    ·show w1.heap.size≠_;omega
    show w1.heap.size≠_;omega
   have tts:=tt10.size
   have ts:Touch (fun k=>k=w1.heap.size) w10 (w10.setCell ⟨w1.heap.size,0,none⟩ (.slice (some ⟨g',0,none⟩) ((dB W H pre).length+1) cap')):=(Touch.refl (fun k=>k=w1.heap.size) w10).setCell (p:=⟨w1.heap.size,0,none⟩) (.inl rfl) _
   refine⟨⟨fun k hk=>⟨(I1.out k hk).1,Nat.lt_of_lt_of_le (I1.out k hk).2 tts⟩,?_,Nat.le_trans i3 tts, .slice (some ⟨g',0,none⟩) ((dB W H pre).length+1) cap',?_,?_,fun k hk hT=> ?_,?_⟩,?_⟩
   ·refine(((Touch.of_ext (S:=fun _=>False) I2.out).after tt10 (fun k hk h=> ?_)).after ts (fun k hk h=> ?_)).ext
    ·have:=(aF I5.out h).1;omega
    have e2:k=w1.heap.size:=h;omega
   ·have hbk:Blk w10 w1.heap.size 37 #[v]:=HOB.out
    have:=hbk.set_ 0 (.slice (some ⟨g',0,none⟩) ((dB W H pre).length+1) cap')
    unfold Blk at this
    simpa using this
   ·rw[HSN.out,if_pos HQ2.out]
    exact Own.touch HO'.out ts (fun k hk e=>by simp only[Value.ownBlock,Option.some.injEq]at hk;subst hk;omega)
   ·simp only[Value.ownBlock,Option.some.injEq]at hk
    subst hk
    rcases HLO.out with h|h
    ·exact I6.out _ h hT
    have h1:=(I1.out _ hT).2
    have h2:=hb5.size
    omega
   ·exact(BS.out.touch tt10 (fun h=>by have:=(aF I5.out h).1;omega)).touch ts (fun h=>by have e2:w.heap.size=w1.heap.size:=h;omega)
   refine tt.mono fun k _ h=> ?_
   simpa using h
  have hq2:inB W H qx qy=false:=by simpa using hq
  have HQ2:=aA hq2
  rw[hq2]at HI3
  clear hq hq2
  gi_wp2_with (refine⟨trivial,?_⟩;gi_at_call 55;refine(callsIn_wide.2 (HI3.out _)).mono ?_;rintro e w5 ⟨rfl,hb5⟩;have HB5:=aA hb5;clear hb5)
  have hb5:=HB5.out
  refine⟨⟨fun k hk=>⟨(I1.out k hk).1,Nat.lt_of_lt_of_le (I1.out k hk).2 hb5.size⟩,I2.out.trans hb5,Nat.le_trans i3 hb5.size,v,(hb5.block (by omega)).trans I4.out,?_,I6.out,BS.out.ext hb5⟩,Touch.of_ext hb5⟩
  rw[HSN.out,if_neg (by rw[HQ2.out];simp),List.append_nil]
  exact I5.out.ext hb5
 rintro T W1 ⟨i1,i2,i3,v,i4,i5,i6,i7⟩ hD
 dsimp only
 have o0:W1.cell? ⟨w1.heap.size,0,none⟩=some v:=by simp[World.cell?,i4]
 have I5:=aA i5
 have ID:=aA hD
 have I2:=aA i2
 have hzz:=i3
 clear i5 hD i2 i4 i1 i6 i7
 go_wp2_with fail
 rw[←HQ.out]
 refine⟨by simp, .inl ⟨_,_,rfl,run_takeDeferred ID.out,?_⟩⟩
 refine⟨.tuple #[v, .int .i64 0],by simp[results,Tryz.results107,go_sem],?_⟩
 have t6:Touch (fun j=>j=w4.heap.size) W1 (W1.putObj w4.heap.size (.deferred none)):=cZ _ _
 refine⟨v,rfl,((Touch.of_ext (S:=fun _=>False) I2.out).after t6 (fun k hk e=>by omega)).ext,?_⟩
 exact Own.lower (Own.touch I5.out t6 (fun k hk e=>by have:=(aF I5.out hk).1;omega)) (by omega)
end Go.Proofs.YtaellcgglldjaaaGreat

namespace Go.Proofs.YtaellcgglldjaaaGreat
open Go.RowKit
def eV (n:Int):Int:=if n<0 then-n else n
def dN (x y tx ty:Int):Int:=eV (x-tx)+eV (y-ty)
set_option maxRecDepth 100000 in
theorem aDw (x y tx ty:Int) (w:World) (hx:0≤x∧x≤1000) (hy:0≤y∧y≤1000) (htx:0≤tx∧tx≤1000) (hty:0≤ty∧ty≤1000):
  Calls Tryz.prog 180 #[.agg #[.int .i64 x, .int .i64 y], .agg #[.int .i64 tx, .int .i64 ty]] w fun e w'=>e= .returned (.tuple #[.int .i64 (eV (x-tx)), .int .i64 (eV (y-ty)), .int .i64 0])∧Ext w w':=by
 have s1:jC x y=true:=by simp only[jC,Bool.and_eq_true,kU];omega
 have s2:jC tx ty=true:=by simp only[jC,Bool.and_eq_true,kU];omega
 have H1:=aA (fun w'=>pF x y w')
 have H2:=aA (fun w'=>pF tx ty w')
 rw[s1]at H1
 rw[s2]at H2
 have e1:=aA (show IntKind.i64.wrap ((if x<tx then tx else x)-if tx<x then tx else x)=eV (x-tx) by
  rw[show((if x<tx then tx else x)-if tx<x then tx else x)=eV (x-tx) by unfold eV;split<;>split<;>split<;>omega]
  exact IntWalk.i64_in _ (by unfold eV;split<;>omega))
 have e2:=aA (show IntKind.i64.wrap ((if y<ty then ty else y)-if ty<y then ty else y)=eV (y-ty) by
  rw[show((if y<ty then ty else y)-if ty<y then ty else y)=eV (y-ty) by unfold eV;split<;>split<;>split<;>omega]
  exact IntWalk.i64_in _ (by unfold eV;split<;>omega))
 clear s1 s2
 go_enter Tryz.func180,Tryz.ntmps180
 go_wp2_with fail
 refine(H1.out _).mono ?_
 rintro e w1 ⟨rfl,hb1⟩
 obtain⟨hc1,hf1⟩:=hb1.cells;have hz1:=hb1.size;(try simp only[zS]at hz1);have z1_0:w.heap.size<w1.heap.size:=(by omega);have z1_1:w.heap.size+1<w1.heap.size:=(by omega)
 go_wp2_with fail
 refine(H2.out _).mono ?_
 rintro e w2 ⟨rfl,hb2⟩
 obtain⟨hc2,hf2⟩:=hb2.cells;have hz2:=hb2.size;(try simp only[zS]at hz2);have z2_0:w.heap.size<w2.heap.size:=(by omega);have z2_1:w.heap.size+1<w2.heap.size:=(by omega)
 go_wp2_with fail
 refine aS w2 [(0,true),(1,true),(2,true),(3,true),(4,true),(5,true),(6,true),(7,true),(8,true),(9,true),(10,true),(11,true),(12,true),(13,true),(14,true),(15,true),(16,true),(17,true),(18,true),(19,true),(20,true),(21,true),(22,true),(23,true),(24,true)] (fun hK0=> ?_)
 iterate 25 (refine SeqH.fr1 ?_;try simp only[zz])
 refine SeqH.done ?_
 (try rw[show max x tx=(if x<tx then tx else x) from by rw[Int.max_def];split<;>split<;>omega,show min x tx=(if tx<x then tx else x) from by rw[Int.min_def];split<;>split<;>omega,show max y ty=(if y<ty then ty else y) from by rw[Int.max_def];split<;>split<;>omega,show min y ty=(if ty<y then ty else y) from by rw[Int.min_def];split<;>split<;>omega])
 rw[e1.out,e2.out]
 generalize (if x<tx then tx else x)=m1
 generalize (if tx<x then tx else x)=m2
 generalize (if y<ty then ty else y)=m3
 generalize (if ty<y then ty else y)=m4
 clear e1 e2
 go_wp2_with fail
 exact bodyPost_ret (v:= .tuple #[.int .i64 (eV (x-tx)), .int .i64 (eV (y-ty)), .int .i64 0]) (by simp[results,Tryz.results180,go_sem, *]) rfl ⟨rfl,z_x⟩
theorem qT {n:Int} (h: -1000≤n∧n≤1000):0≤eV n∧eV n≤1000:=by unfold eV;split<;>omega
theorem aLh {x y tx ty:Int} (hx:0≤x∧x≤1000) (hy:0≤y∧y≤1000) (htx:0≤tx∧tx≤1000) (hty:0≤ty∧ty≤1000):0≤dN x y tx ty∧dN x y tx ty≤2000:=by
 have h1:=qT (n:=x-tx) (by omega)
 have h2:=qT (n:=y-ty) (by omega)
 unfold dN
 omega
theorem aG9 (x y tx ty:Int) (w:World) (hx:0≤x∧x≤1000) (hy:0≤y∧y≤1000) (htx:0≤tx∧tx≤1000) (hty:0≤ty∧ty≤1000):
  Calls Tryz.prog 155 #[.agg #[.int .i64 x, .int .i64 y], .agg #[.int .i64 tx, .int .i64 ty]] w fun e w'=>e= .returned (.tuple #[.int .i64 (dN x y tx ty), .int .i64 0])∧Ext w w':=by
 have H1:=aA (fun w'=>aDw x y tx ty w' hx hy htx hty)
 have b1:=qT (n:=x-tx) (by omega)
 have b2:=qT (n:=y-ty) (by omega)
 unfold dN
 generalize eV (x-tx)=p at *
 generalize eV (y-ty)=q at *
 go_enter Tryz.func155,Tryz.ntmps155
 go_wp2_with fail
 refine(H1.out _).mono ?_
 rintro e w1 ⟨rfl,hb1⟩
 go_wp2_with fail
 exact bodyPost_ret (v:= .tuple #[.int .i64 (p+q), .int .i64 0]) (by simp[results,Tryz.results155,go_sem, *]) rfl ⟨rfl,z_x⟩
def iH (w:World) (sb:Nat) (W H:Int) (a:Option Addr) (n c:Nat) (tx ty:Int) (h mg mc:Nat) (k:Int):Prop:=
 Blk w sb 138 #[.int .i64 W, .int .i64 H, .slice a n c, .int .i64 tx, .int .i64 ty, .pointer (some ⟨h,0,none⟩), .map (some mg), .map (some mc), .int .i64 k]
theorem kP {w:World} {sb:Nat} {W H:Int} {a:Option Addr} {n c:Nat} {tx ty:Int} {h mg mc:Nat} {k:Int} (S:iH w sb W H a n c tx ty h mg mc k) (x y:Int) (hx:0≤x∧x≤1000) (hy:0≤y∧y≤1000) (hW:0≤W∧W≤1000):
  Calls Tryz.prog 104 #[.pointer (some ⟨sb,0,none⟩), .agg #[.int .i64 x, .int .i64 y]] w fun e w'=>e= .returned (.int .i64 (y*W+x))∧Ext w w':=by
 have hw0:=S.at 0 rfl
 have hz:=Blk.lt S
 have m0:=cN (a:=y) (b:=W) (A:=1000) (B:=1000) (by omega) (by omega) (by omega) (by omega)
 have k1:IntKind.i64.wrap (y*W)=y*W:=IntWalk.i64_in _ (by omega)
 have k2:IntKind.i64.wrap (y*W+x)=y*W+x:=IntWalk.i64_in _ (by omega)
 clear S m0
 go_enter Tryz.func104,Tryz.ntmps104
 go_wp2_with fail
 obtain⟨w1,hw1⟩: ∃w1,w1=w.alloc (.cells #[.int .i64 x, .int .i64 y] 28):=⟨_,rfl⟩
 have hx1:Ext w w1:=by rw[hw1];exact(Ext.refl _).alloc _
 have B:=aA (show Blk w1 w.heap.size 28 #[.int .i64 x, .int .i64 y] by rw[hw1];exact Blk.new_ rfl)
 have q:=(hx1.cell (p:=⟨sb,0,none⟩) hz).trans hw0
 have hz1:=Nat.lt_of_lt_of_le hz hx1.size
 rw[←hw1]
 have b0:=B.out.at 0 rfl;have b1:=B.out.at 1 rfl;have bz:=B.out.lt
 clear hw1 hw0
 refine aS w1 [(0,true),(1,true),(2,true),(3,true),(4,true),(5,true),(6,true),(7,true),(8,true),(9,true),(10,true),(11,true),(12,true)] (fun hK0=> ?_)
 iterate 13 (refine SeqH.fr1 ?_;try simp only[zz])
 refine SeqH.done ?_
 go_wp2_with fail
 go_ret
 exact⟨rfl,hx1.trans z_x⟩
theorem qO {w:World} {sb:Nat} {W H:Int} {a:Option Addr} {l:List Int} {c:Nat} {tx ty:Int} {h mg mc:Nat} {k:Int} (S:iH w sb W H a l.length c tx ty h mg mc k) (hm:bW W H=true) (hl:(l.length:Int)=W*H) (hr:Row16 w a l) (hu:cV l) (x y:Int) (h1:0≤x) (h2:x<W) (h3:0≤y) (h4:y<H):
  Calls Tryz.prog 59 #[.pointer (some ⟨sb,0,none⟩), .agg #[.int .i64 x, .int .i64 y]] w fun e w'=>e= .returned (.int .u64 (aL l W (x,y)))∧Ext w w':=by
 obtain⟨m1,m2,m3,m4⟩:=mayB_true.1 hm
 obtain⟨b,off,rfl,hb,hc⟩:=gJ hr hl h1 h2 h3 h4
 have cb:=bX hu W (x,y)
 have ib:=jO h1 h2 h3 h4
 have HN:=aA (fun(w':World) (hx:Ext w w')=>kP (Blk.ext S hx) x y (by omega) (by omega) (by omega))
 have q2:=S.at 2 rfl
 have hz:=Blk.lt S
 have ki:((aC W (x,y):Nat):Int)=y*W+x:=bT h1 (by omega) h3
 rw[←ki]at HN
 rw[show(y*W+x).toNat=aC W (x,y) from rfl]at hc
 have kl:((aC W (x,y):Nat):Int)<(l.length:Int):=by omega
 generalize aC W (x,y)=v at *
 generalize aL l W (x,y)=cst at *
 obtain⟨n,hn⟩: ∃n,l.length=n:=⟨_,rfl⟩
 rw[hn]at q2 kl
 have k3:IntKind.u64.wrap cst=cst:=by rw[IntKind.wrap_u64];omega
 clear S hm hl hr hu h1 h2 h3 h4 ib hn m1 m2 m3 m4 ki
 go_enter Tryz.func59,Tryz.ntmps59
 go_wp2_with fail
 obtain⟨w1,hw1⟩: ∃w1,w1=w.alloc (.cells #[.int .i64 x, .int .i64 y] 28):=⟨_,rfl⟩
 have hx1:Ext w w1:=by rw[hw1];exact(Ext.refl _).alloc _
 have B:=aA (show Blk w1 w.heap.size 28 #[.int .i64 x, .int .i64 y] by rw[hw1];exact Blk.new_ rfl)
 have q:=(hx1.cell (p:=⟨sb,2,none⟩) hz).trans q2
 have hc1:=(hx1.cell (p:=⟨b,off+v,none⟩) hb).trans hc
 have hz1:=Nat.lt_of_lt_of_le hz hx1.size
 have hb1:=Nat.lt_of_lt_of_le hb hx1.size
 rw[←hw1]
 have b0:=B.out.at 0 rfl;have b1:=B.out.at 1 rfl;have bz:=B.out.lt
 clear hw1 q2 hc
 refine aS w1 [(0,true),(1,true),(2,true),(3,true),(4,true),(5,true),(6,true),(7,false),(8,true),(9,true),(10,true),(11,true)] (fun hK0=> ?_)
 iterate 7 (refine SeqH.fr1 ?_;try simp only[zz])
 (refine aP ?_;intro K hK;go_simp;refine(HN.out _ (hx1.trans z_x)).mono ?_;rintro e w2 ⟨rfl,hb2⟩;go_wp2_with fail;refine hK.out _ _ (aI z_x) (fun hK0=> ?_);clear hK K;try simp only[zz])
 iterate 4 (refine SeqH.fr1 ?_;try simp only[zz])
 refine SeqH.done ?_
 have hx2:=hx1.trans hK0.2
 go_wp2_with fail
 go_ret
 exact⟨rfl,hx2⟩
end Go.Proofs.YtaellcgglldjaaaGreat

namespace Go.Proofs.YtaellcgglldjaaaGreat
open Go.RowKit
theorem uC {P:Program} (w:World) (t e ty:TypeId) (z:Value) (ht:P.underlying t=some (.slice e)) (hv: ∀w,(zeroValue e).run P w= .ok z w) (h1: ∀i,i<z.cells.size→(z.cells[i]!).oneCell'=true) (b o n c:Nat) (hn:0<n) (hs:0<z.cells.size)
  (hc: ∀j,j<n*z.cells.size→(w.cell? ⟨b,o+j,none⟩).isSome=true) (hf: ∀j,j<n*z.cells.size→w.frozen? ⟨b,o+j,none⟩=false):
  ∃zs:List Value,zs.length=n*z.cells.size∧(Builtin.clear_ #[t] ty #[.slice (some ⟨b,o,none⟩) n c]).run P w= .ok (.tuple #[]) (w.setCells b o zs):=by
 have hlen:(Builtin.zeroCells z.cells n).toList.length=n*z.cells.size:=by simp[Builtin.zeroCells]
 refine⟨(Builtin.zeroCells z.cells n).toList,hlen,?_⟩
 have hone: ∀v∈(Builtin.zeroCells z.cells n).toList,v.oneCell'=true:=by
  intro v hv'
  unfold Builtin.zeroCells at hv'
  simp only[Array.toList_map,Array.toList_range,List.mem_map,List.mem_range]at hv'
  obtain⟨i,_,rfl⟩:=hv'
  exact h1 _ (Nat.mod_lt _ hs)
 have hst:=run_storeCells_cells (P:=P) b o (Builtin.zeroCells z.cells n).toList 0 w (by rw[hlen];simpa using hc) (by rw[hlen];simpa using hf) hone
 simp only[Nat.add_zero]at hst
 obtain⟨m,rfl⟩: ∃m,n=m+1:=⟨n-1,by omega⟩
 simp[Builtin.clear_,run_underlying ht,hv,hst]
theorem xG (a:Option Addr) (c:Nat) (f:Nat) (caps:Array Value) (w:World):Calls Tryz.prog 122 #[.slice a 0 c, .func (.func f) #[] caps] w fun e w'=>e= .returned (.int .i64 (-1))∧w=w':=by
 go_enter Tryz.func122,Tryz.ntmps122
 go_wp2
 go_loop [8] (fun i=>i= .int .i64 0) (fun _=>0)
 case atStart=>rfl
 obtain rfl:=hrel
 go_wp2
 go_ret
 exact⟨rfl,rfl⟩
theorem zK {w:World} {sb:Nat} {m cap f:Nat} {caps:Array Value} {L:List aB} {p:aB→Bool} {base:Nat} (hL:L.length=m) (hm:m≤1000) (hv:Own cellE w base 28 (.slice (some ⟨sb,0,none⟩) m cap) L)
  (hp: ∀w',Ext w w'→ ∀q,q∈L→Calls Tryz.prog f (#[.agg #[.int .i64 q.1, .int .i64 q.2]]++caps) w' fun e w2=>e= .returned (.bool (p q))∧Ext w' w2)
  (eg: ∀args w,(callFunc f args).run Tryz.prog w= .ok (.enter f args) w)
  (hno: ∀q,q∈L→p q=false):
  Calls Tryz.prog 122 #[.slice (some ⟨sb,0,none⟩) m cap, .func (.func f) #[] caps] w fun e w'=>e= .returned (.int .i64 (-1))∧Ext w w':=by
 have HV:=aA hv
 have HP:=aA hp
 have HNO:=aA hno
 have HL:=aA hL
 have zb:=(aF hv rfl).2
 clear hv hp hno hL
 go_enter Tryz.func122,Tryz.ntmps122
 go_wp2
 go_loopw [8] (fun i wr=> ∃k:Nat,k≤m∧i= .int .i64 k∧Ext w wr) (fun i _=>m-(intOf i).toNat)
 case atStart=>exact⟨0,Nat.zero_le _,rfl,Ext.refl _⟩
 obtain⟨k,hkk,rfl,hext⟩:=hrel
 have hz:=hext.size
 by_cases hlt:k<m
 ·obtain⟨q,hq⟩: ∃q,L[k]? =some q:=⟨_,zG (by rw[HL.out];exact hlt)⟩
  obtain⟨d0,d1,_⟩:=dZ (HV.out.ext hext) hq
  have hki:(k:Int)<(m:Int):=by omega
  have HQ:=aA (fun w' (hx:Ext wr w')=>HP.out w' (hext.trans hx) q (List.mem_of_getElem? hq))
  have zr:sb<wr.heap.size:=by omega
  have hf:=HNO.out q (List.mem_of_getElem? hq)
  rw[hf]at HQ
  clear hq hf
  go_wp2_with fail
  refine(HQ.out _ (Ext.refl _)).mono ?_
  rintro e w2 ⟨rfl,hb2⟩
  go_wp2
  go_roundw
  case rel=>exact⟨k+1,hlt,by go_num,hext.trans hb2⟩
  simp[intOf];omega
 go_wp2
 go_ret
 exact⟨rfl,hext⟩
theorem aG6 {α:Type} (E:Enc α) (l:List α): ∀i,(l.take i).flatMap E.cells=(l.flatMap E.cells).take (i*E.size):=by
 induction l with
 |nil=>simp
 |cons a l ih=>
  intro i
  cases i with
  |zero=>simp
  |succ i=>
   rw[List.take_succ_cons,List.flatMap_cons,List.flatMap_cons,ih,List.take_append,E.len,Nat.add_mul,Nat.one_mul,Nat.add_sub_cancel]
   rw[List.take_of_length_le (l:=E.cells a) (by rw[E.len];omega)]
theorem Own.cut {α:Type} {E:Enc α} {w:World} {base:Nat} {e:TypeId} {g n c i:Nat} {l:List α} (h:Own E w base e (.slice (some ⟨g,0,none⟩) n c) l) (hi:i≤n):Own E w base e (.slice (some ⟨g,0,none⟩) i c) (l.take i):=by
 obtain⟨a',c',e'⟩:=h.slice
 have en:n=l.length:=by injection e'
 subst en
 rcases h.2 with⟨h0,_⟩|⟨g',cap,cur,hv,hb,hg,h1,h2,h3,h4⟩
 ·cases h0
 cases hv
 have hl:(l.take i).length=i:=by rw[List.length_take];omega
 refine⟨by rw[E.flat_len], .inr ⟨g,c,cur,by rw[hl],hb,hg,by rw[hl];omega,h2,h3,?_⟩⟩
 rw[hl,aG6,←h4,List.take_take]
 congr 1
 exact(Nat.min_eq_left (Nat.mul_le_mul_right _ hi)).symm
theorem Own.tail_set {α:Type} {E:Enc α} {w:World} {base:Nat} {e:TypeId} {g i c:Nat} {l:List α} (h:Own E w base e (.slice (some ⟨g,0,none⟩) i c) l) (zs:List Value) (hfit:i*E.size+zs.length≤c*E.size):Own E (w.setCells g (i*E.size) zs) base e (.slice (some ⟨g,0,none⟩) i c) l:=by
 obtain⟨a',c',e'⟩:=h.slice
 have en:i=l.length:=by injection e'
 subst en
 rcases h.2 with⟨h0,_⟩|⟨g',cap,cur,hv,hb,hg,h1,h2,h3,h4⟩
 ·cases h0
 cases hv
 obtain⟨cur1,k1,k2,k3⟩:=nT g e zs (l.length*E.size) w cur hg (by omega)
 refine⟨by rw[E.flat_len], .inr ⟨g,c,cur1,rfl,hb,k1,h1,h2,by omega,?_⟩⟩
 rw[k3,←h4,List.append_assoc,List.take_append,List.length_take]
 rw[List.take_take]
 have:min (l.length*E.size) cur.toList.length=l.length*E.size:=Nat.min_eq_left (by have:=Array.length_toList (xs:=cur);omega)
 rw[this,Nat.min_self,Nat.sub_self,List.take_zero,List.append_nil]
structure DelAt (L:List aB) (p:aB→Bool) (X:List aB) (i j:Nat):Prop where
 len:X.length=L.length
 i_eq:i=((L.take j).filter fun q=> !p q).length
 le:i≤j
 front:X.take i=(L.take j).filter fun q=> !p q
 back: ∀k,j≤k→X[k]? =L[k]?
theorem pL {α:Type} {l:List α} {j:Nat} {q:α} (h:l[j]? =some q):l.take (j+1)=l.take j++[q]:=by rw[List.take_add_one,h];rfl
theorem DelAt.start {L:List aB} {p:aB→Bool} {k0:Nat} {q:aB} (hq:L[k0]? =some q) (hp:p q=true) (hno: ∀r∈L.take k0,p r=false):DelAt L p L k0 (k0+1):=by
 have hk:=(zJ hq).1
 have hf:(L.take k0).filter (fun q=> !p q)=L.take k0:=List.filter_eq_self.2 fun r hr=>by rw[hno r hr];rfl
 have ht:(L.take (k0+1)).filter (fun q=> !p q)=L.take k0:=by
  rw[pL hq,List.filter_append,hf]
  simp[hp]
 refine⟨rfl,by rw[ht,List.length_take];omega,by omega,ht.symm,fun _ _=>rfl⟩
theorem DelAt.skip {L X:List aB} {p:aB→Bool} {i j:Nat} {q:aB} (h:DelAt L p X i j) (hq:L[j]? =some q) (hp:p q=true):DelAt L p X i (j+1):=by
 have ht:(L.take (j+1)).filter (fun q=> !p q)=(L.take j).filter (fun q=> !p q):=by
  rw[pL hq,List.filter_append]
  simp[hp]
 exact⟨h.len,by rw[ht];exact h.i_eq,by have:=h.le;omega,by rw[ht];exact h.front,fun k hk=>h.back k (by omega)⟩
theorem DelAt.keep {L X:List aB} {p:aB→Bool} {i j:Nat} {q:aB} (h:DelAt L p X i j) (hij:i<j) (hq:L[j]? =some q) (hp:p q=false):DelAt L p (X.set i q) (i+1) (j+1):=by
 have hj:=(zJ hq).1
 have ht:(L.take (j+1)).filter (fun q=> !p q)=(L.take j).filter (fun q=> !p q)++[q]:=by
  rw[pL hq,List.filter_append]
  simp[hp]
 have hi:i<X.length:=by rw[h.len];omega
 refine⟨by rw[List.length_set];exact h.len,by rw[ht,List.length_append,←h.i_eq];rfl,by omega,?_,fun k hk=> ?_⟩
 ·rw[ht,←h.front,List.take_add_one,List.getElem?_set_self hi,List.take_set]
  simp
  rw[List.set_eq_of_length_le (by rw[List.length_take];omega)]
 rw[List.getElem?_set_ne (by omega)]
 exact h.back k (by omega)
set_option maxRecDepth 100000 in
set_option maxHeartbeats 4000000 in
theorem yM {w:World} {sb:Nat} {m cap f:Nat} {caps:Array Value} {L:List aB} {p:aB→Bool} {base:Nat} (hL:L.length=m) (hm:m≤1000) (hv:Own cellE w base 28 (.slice (some ⟨sb,0,none⟩) m cap) L)
  (hp: ∀w',Touch (fun k=>k=sb) w w'→ ∀q,q∈L→Calls Tryz.prog f (#[.agg #[.int .i64 q.1, .int .i64 q.2]]++caps) w' fun e w2=>e= .returned (.bool (p q))∧Ext w' w2)
  (eg: ∀args w,(callFunc f args).run Tryz.prog w= .ok (.enter f args) w)
  {k0:Nat} {q0:aB} (hq0:L[k0]? =some q0) (hyes:p q0=true) (hno: ∀r∈L.take k0,p r=false):
  Calls Tryz.prog 109 #[.slice (some ⟨sb,0,none⟩) m cap, .func (.func f) #[] caps] w fun e w'=> ∃v,e= .returned v∧Own cellE w' base 28 v (L.filter fun q=> !p q)∧Touch (fun k=>k=sb) w w':=by
 have hk0:k0<m:=by have:=(zJ hq0).1;omega
 have HI:=aA (rL (p:=p) hL hm hv (fun w' hx=>hp w' (Touch.of_ext hx)) eg hk0 (fun q hq=>by rw[hq0]at hq;cases hq;exact hyes) (fun j q hj hq=>hno q (List.mem_of_getElem? (i:=j) (by rw[List.getElem?_take_of_lt hj];exact hq))))
 have HD:=aA (DelAt.start hq0 hyes hno)
 have HV:=aA hv
 have HP:=aA hp
 have HL:=aA hL
 have zb:=(aF hv rfl).2
 have hbase:=(aF hv rfl).1
 have hcap:m≤cap∧cap≤9223372036854775807:=by
  rcases hv.2 with⟨h,_⟩|⟨g,c,cur,h,_,_,h1,h2,_⟩
  ·cases h
  cases h
  rw[hL]at h1
  exact⟨h1,h2⟩
 have hk1:((k0:Int)== -1)=false:=by simp
 clear hv hp hL hq0 hyes hno
 go_enter Tryz.func109,Tryz.ntmps109
 go_wp2_with fail
 refine(HI.out).mono ?_
 rintro e w1 ⟨rfl,hb1⟩
 have HB1:=aA hb1
 clear hb1 HI
 go_wp2_with fail
 go_loopw [5,6] (fun si sj wr=> ∃(i j:Nat) (X:List aB),si= .int .i64 (i:Int)∧sj= .int .i64 (j:Int)∧i<j∧j≤m∧DelAt L p X i j∧Own cellE wr base 28 (.slice (some ⟨sb,0,none⟩) m cap) X∧Touch (fun k=>k=sb) w wr) (fun _ sj _=>m-(intOf sj).toNat)
 case atStart=>exact⟨k0,k0+1,L,rfl,by go_num,by omega,by omega,HD.out,HV.out.ext HB1.out,Touch.of_ext HB1.out⟩
 obtain⟨i,j,X,rfl,rfl,hij,hjm,hd,ho,ht⟩:=hrel
 have HD2:=aA hd
 have HO:=aA ho
 have HT:=aA ht
 have hXm:X.length=m:=by rw[hd.len,HL.out]
 have zr:sb<wr.heap.size:=Nat.lt_of_lt_of_le zb ht.size
 clear hd ho ht HD HV HB1
 by_cases hlt:j<m
 ·obtain⟨q,hq⟩: ∃q,L[j]? =some q:=⟨_,zG (by rw[HL.out];exact hlt)⟩
  have hXq:X[j]? =some q:=by rw[HD2.out.back j (Nat.le_refl _)];exact hq
  obtain⟨d0,d1,_⟩:=dZ HO.out hXq
  have hji:(j:Int)<(m:Int):=by omega
  have hii:(i:Int)<(m:Int):=by omega
  have HQ:=aA (fun w' (hx:Ext wr w')=>HP.out w' (HT.out.trans (Touch.of_ext hx)) q (List.mem_of_getElem? hq))
  have HQQ:=aA hq
  obtain⟨qx,qy⟩:=q
  simp only at d0 d1 HQ
  cases hpq:p (qx,qy)
  ·rw[hpq]at HQ
   have KEEP:=aA (HD2.out.keep hij hq hpq)
   obtain⟨x,hx⟩: ∃x,X[i]? =some x:=⟨_,zG (by omega)⟩
   have HXM:=aA hXm
   clear hq hXq hpq hXm
   go_wp2_with fail
   refine(HQ.out _ z_x).mono ?_
   rintro e w2 ⟨rfl,hb2⟩
   have hx2:Ext wr w2:=z_x
   have b0:w2.cell? ⟨wr.heap.size,0,none⟩=some (.int .i64 qx):=(hb2.cell (p:=⟨wr.heap.size,0,none⟩) (by simp)).trans (by simp[go_sem])
   have b1:w2.cell? ⟨wr.heap.size,1,none⟩=some (.int .i64 qy):=(hb2.cell (p:=⟨wr.heap.size,1,none⟩) (by simp)).trans (by simp[go_sem])
   have o2:=HO.out.ext hx2
   obtain⟨c0,c1,_⟩:=dZ o2 hx
   have h':w2.ownsRow base 28 2 (.slice (some ⟨sb,0,none⟩) m cap) X.length (X.flatMap cellE.cells):=o2
   rw[HXM.out]at h'
   have f0:=h'.frozenAt (i*2)
   have f1:=h'.frozenAt (i*2+1)
   have O3:Hid (Own cellE ((w2.setCell ⟨sb,i*2,none⟩ (.int .i64 qx)).setCell ⟨sb,i*2+1,none⟩ (.int .i64 qy)) base 28 (.slice (some ⟨sb,0,none⟩) m cap) (X.set i (qx,qy))):=aA (o2.turn (i:=i) (zJ hx).1 (qx,qy))
   have T3:Hid (Touch (fun k=>k=sb) w ((w2.setCell ⟨sb,i*2,none⟩ (.int .i64 qx)).setCell ⟨sb,i*2+1,none⟩ (.int .i64 qy))):=aA (((HT.out.trans (Touch.of_ext hx2)).setCell (p:=⟨sb,i*2,none⟩) (.inl rfl) _).setCell (p:=⟨sb,i*2+1,none⟩) (.inl rfl) _)
   have zb2:wr.heap.size≠sb:=by omega
   clear d0 d1 hx o2 h' hb2 hx2 HO
   go_wp2_with fail
   go_roundw
   case rel=>exact⟨i+1,j+1,_,by go_num,by go_num,by omega,hlt,KEEP.out,O3.out,T3.out⟩
   simp[intOf];omega
  rw[hpq]at HQ
  have SKIP:=aA (HD2.out.skip hq hpq)
  clear hq hXq hpq hXm
  go_wp2_with fail
  refine(HQ.out _ z_x).mono ?_
  rintro e w2 ⟨rfl,hb2⟩
  have hx2:Ext wr w2:=z_x
  have HX2:=aA hx2
  clear hb2 hx2
  go_wp2_with fail
  go_roundw
  case rel=>exact⟨i,j+1,X,rfl,by go_num,by omega,hlt,SKIP.out,HO.out.ext HX2.out,HT.out.trans (Touch.of_ext HX2.out)⟩
  simp[intOf];omega
 obtain rfl:j=m:=by omega
 have h':wr.ownsRow base 28 2 (.slice (some ⟨sb,0,none⟩) j cap) X.length (X.flatMap cellE.cells):=HO.out
 rw[hXm]at h'
 have hflen:(X.flatMap cellE.cells).length=j*2:=by rw[cellE.flat_len,hXm];rfl
 obtain⟨zs,hzl,hcl⟩:=uC (P:=Tryz.prog) wr 37 28 0 (.agg #[.int .i64 0, .int .i64 0]) T_cells.under (fun w=>by kernel_rfl) (fun t ht=>by
   have ht2:t<2:=ht
   obtain rfl|rfl:t=0∨t=1:=by omega
   all_goals rfl) sb (i*2) (j-i) (cap-i) (by omega) (by decide) (fun t ht=>by
   have ht2:t<(j-i)*2:=ht
   rw[h'.cellAt (i*2+t) (by omega),zG (by omega)];rfl) (fun t ht=>h'.frozenAt _)
 have hzl2:zs.length=(j-i)*2:=hzl
 have FIN:=aA (Own.tail_set (E:=cellE) (HO.out.cut (i:=i) (by omega)) zs (by show i*2+zs.length≤cap*2;omega))
 have FT:=aA (pN sb zs (i*2) HT.out (S:=fun k=>k=sb) rfl)
 have hX:X.take i=L.filter fun q=> !p q:=by
  rw[HD2.out.front,List.take_of_length_le (by rw[HL.out];exact Nat.le_refl _)]
 rw[hX]at FIN
 have hi0:(i:Int)≤(j:Int):=by omega
 have hi1:(i:Int)≤(cap:Int):=by omega
 clear h' hflen hzl hzl2 hX HO
 go_wp2_with fail
 go_ret
 exact⟨_,rfl,FIN.out,FT.out⟩
theorem aBb {w:World} {v:Value} {f:Nat} {caps:Array Value} {L:List aB} {p:aB→Bool} {base:Nat} (hm:L.length≤1000) (hv:Own cellE w base 28 v L)
  (hp: ∀w',Touch (fun k=>v.ownBlock=some k) w w'→ ∀q,q∈L→Calls Tryz.prog f (#[.agg #[.int .i64 q.1, .int .i64 q.2]]++caps) w' fun e w2=>e= .returned (.bool (p q))∧Ext w' w2)
  (eg: ∀args w,(callFunc f args).run Tryz.prog w= .ok (.enter f args) w):
  Calls Tryz.prog 109 #[v, .func (.func f) #[] caps] w fun e w'=> ∃v2,e= .returned v2∧Own cellE w' base 28 v2 (L.filter fun q=> !p q)∧Touch (fun k=>v.ownBlock=some k) w w':=by
 cases L with
 |nil=>
  obtain⟨a,c,rfl⟩:=hv.slice
  have HV:=aA hv
  have HI:=aA (xG a c f caps w)
  clear hp eg hm hv
  simp only[List.length_nil]at HV⊢
  go_enter Tryz.func109,Tryz.ntmps109
  go_wp2_with fail
  refine HI.out.mono ?_
  rintro e w1 ⟨rfl,rfl⟩
  go_wp2_with fail
  go_ret
  exact⟨_,rfl,HV.out,Touch.refl _ _⟩
 |cons r0 L0=>
  obtain⟨sb,cap,rfl⟩: ∃sb cap,v= .slice (some ⟨sb,0,none⟩) (r0::L0).length cap:=by
   rcases hv.2 with⟨_,h⟩|⟨g,cap,cur,h,_⟩
   ·simp at h
   exact⟨g,cap,h⟩
  have hset:(fun k=>(Value.slice (some ⟨sb,0,none⟩) (r0::L0).length cap).ownBlock=some k)=fun k=>k=sb:=by
   funext k
   simp only[Value.ownBlock,Option.some.injEq,eq_iff_iff]
   exact⟨fun h=>h.symm,fun h=>h.symm⟩
  rw[hset]at hp⊢
  by_cases hex: ∃q,q∈(r0::L0)∧p q=true
  ·obtain⟨k0,q0,h1,h2,h3⟩: ∃k0 q0,(r0::L0)[k0]? =some q0∧p q0=true∧ ∀r∈(r0::L0).take k0,p r=false:=by
    clear hp hset hv eg hm
    generalize r0::L0=L at *
    obtain⟨q,hq,hpq⟩:=hex
    induction L with
    |nil=>cases hq
    |cons a l ih=>
     by_cases ha:p a=true
     ·exact⟨0,a,rfl,ha,fun r hr=>by cases hr⟩
     have hql:q∈l:=(List.mem_cons.1 hq).resolve_left (fun e=>ha (e▸hpq))
     obtain⟨k,q0,h1,h2,h3⟩:=ih hql
     refine⟨k+1,q0,h1,h2,fun r hr=> ?_⟩
     rw[List.take_succ_cons]at hr
     rcases List.mem_cons.1 hr with rfl|hr
     ·simpa using ha
     exact h3 r hr
   exact yM rfl hm hv hp eg h1 h2 h3
  have hno: ∀q,q∈(r0::L0)→p q=false:=fun q hq=>by
   cases h:p q
   ·rfl
   exact absurd ⟨q,hq,h⟩ hex
  have HI:=aA (zK (p:=p) rfl hm hv (fun w' hx=>hp w' (Touch.of_ext hx)) eg hno)
  have hf:(r0::L0).filter (fun q=> !p q)=r0::L0:=List.filter_eq_self.2 fun q hq=>by rw[hno q hq];rfl
  rw[hf]
  have HV:=aA hv
  clear hp hno hex hf hv hset
  generalize r0::L0=L at *
  generalize L.length=m at *
  go_enter Tryz.func109,Tryz.ntmps109
  go_wp2_with fail
  refine HI.out.mono ?_
  rintro e w1 ⟨rfl,hb1⟩
  have HB1:=aA hb1
  clear hb1
  go_wp2_with fail
  go_ret
  exact⟨_,rfl,HV.out.ext HB1.out,Touch.of_ext HB1.out⟩
end Go.Proofs.YtaellcgglldjaaaGreat

