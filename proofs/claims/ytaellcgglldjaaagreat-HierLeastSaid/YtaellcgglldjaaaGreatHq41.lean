/- Part of a proof: RangeV RouteA RouteB. -/
import Derived.Test.YtaellcgglldjaaaGreatHq01
import Derived.Test.YtaellcgglldjaaaGreatHq23
import Derived.Test.YtaellcgglldjaaaGreatHq12
import Derived.Stop.RegionWithIn
set_option linter.all false
set_option linter.unusedVariables false
set_option linter.unusedSimpArgs false
namespace Go.Proofs.YtaellcgglldjaaaGreat
open Go.RowKit
theorem uI {α:Type} {P:Program} {n:Nat} {g:Operand} {assign body:Code} {Q:Exit→Act→World→Prop} {a:Act} {w:World} {gf:Nat} {lb:Array Value} {encs:α→Array Value} {u v:α→Value} {cs:α→Array Value} {t:TypeId} {p1 p2 d bs:Nat} {xs:List α} {R:Nat→Prop}
  (hg:a.eval g= .func (.func gf) #[] lb) (eg: ∀args w,(callFunc gf args).run P w= .ok (.enter gf args) w) (hseq:aCb P gf lb encs xs R w) (henc: ∀x,encs x= #[u x,v x])
  (I:(Nat→Prop)→List α→World→Prop) (Ix:Code→(Nat→Prop)→List α→World→Prop) (hR: ∀k,R k→k<w.heap.size)
  (hO: ∀T pre W1 W2,I T pre W1→Touch (fun k=>k=w.heap.size∨k=w.heap.size+1) W1 W2→I T pre W2)
  (hA: ∀T pre W1 o,I T pre W1→I (fun k=>T k∨k=W1.heap.size) pre (W1.alloc o))
  (hE: ∀T pre W1 W2,I T pre W1→Ext W1 W2→I T pre W2)
  (hS: ∀T pre W1 p u,I T pre W1→T p.block→I T pre (W1.setCell p u))
  (hOx: ∀c T pre W1 W2,Ix c T pre W1→Touch (fun k=>k=w.heap.size∨k=w.heap.size+1) W1 W2→Ix c T pre W2)
  (hEx: ∀c T pre W1 W2,Ix c T pre W1→Ext W1 W2→Ix c T pre W2)
  (h0:I (fun _=>False) [] w)
  (hassign: ∀x W1 (K:Act→World→Prop),(∀Bx W2,Ext W1 W2→W2.heap[Bx]? =some (.cells (cs x) t (0,0))→W1.heap.size≤Bx→K {tmps:=(((a.tmps.setIfInBounds p1 (u x)).setIfInBounds p2 (v x)).setIfInBounds d (u x)).setIfInBounds bs (.pointer (some ⟨Bx,0,none⟩)),defers:=[]} W2)→
   assign.wpIn (Fence.wide.inRound (w.heap.size+1)) 3 P (Exit.then K (fun _ _ _=>False)) {tmps:=(a.tmps.setIfInBounds p1 (u x)).setIfInBounds p2 (v x),defers:=[]} W1)
  (hbody: ∀T pre x Bx W1,I T pre W1→W1.heap[Bx]? =some (.cells (cs x) t (0,0))→w.heap.size+2≤Bx→w.heap.size+2≤W1.heap.size→pre++[x]<+:xs→body.wpIn (Fence.wide.inRound (w.heap.size+1)) 3 P
   (fun e _ W2=>((e= .normal∧I T (pre++[x]) W2)∨ ∃c,yH e=some c∧Ix c T (pre++[x]) W2)∧Touch (fun k=> ¬T k∧ ¬R k∧k≠w.heap.size∧k≠w.heap.size+1) W1 W2) {tmps:=(((a.tmps.setIfInBounds p1 (u x)).setIfInBounds p2 (v x)).setIfInBounds d (u x)).setIfInBounds bs (.pointer (some ⟨Bx,0,none⟩)),defers:=[]} W1)
  (hdone: ∀T W1,I T xs W1→W1.heap[w.heap.size]? =some (.deferred (some []))→Q .normal {a with defers:={target:= .collected w.heap.size,args:= #[]}::a.defers} W1)
  (hstop: ∀c T pre W1,pre<+:xs→Ix c T pre W1→W1.heap[w.heap.size]? =some (.deferred (some []))→c.wpIn Fence.wide n P Q {a with defers:={target:= .collected w.heap.size,args:= #[]}::a.defers} W1):
  (Code.rangeFunc g #[p1,p2] assign body).wpIn Fence.wide n P Q a w:=by
 refine aDt hg eg hseq (fun x=>by rw[henc];rfl) I Ix (fun x a' W=> ∃Bx,w.heap.size+2≤Bx∧W.heap[Bx]? =some (.cells (cs x) t (0,0))∧a'={tmps:=(((a.tmps.setIfInBounds p1 (u x)).setIfInBounds p2 (v x)).setIfInBounds d (u x)).setIfInBounds bs (.pointer (some ⟨Bx,0,none⟩)),defers:=[]})
  hR hO hA hE hS hOx hEx ?_ h0 ?_ ?_ hdone hstop
 ·rintro x a' W1 W2 ⟨Bx,h1,h2,h3⟩ tt
  exact⟨Bx,h1,(tt.block Bx (Array.getElem?_eq_some_iff.1 h2).1 (fun e=>by omega)).trans h2,h3⟩
 ·intro T pre x W1 K i z hK
  have e: ∀tm:Array Value,Array.foldl (fun(t:Array Value) (x:Nat×Value)=>t.setIfInBounds x.1 x.2) tm (#[p1,p2].zip (encs x))=(tm.setIfInBounds p1 (u x)).setIfInBounds p2 (v x):=fun tm=>by rw[henc];simp
  rw[e]
  exact hassign x W1 K fun Bx W2 e hb hx=>hK _ _ e ⟨Bx,by omega,hb,rfl⟩
 ·rintro T pre x a' W1 i ⟨Bx,h1,h2,rfl⟩ z hp
  exact hbody T pre x Bx W1 i h2 h1 z hp
theorem aB9 {α:Type} {P:Program} {n:Nat} {g:Operand} {assign body:Code} {Q:Exit→Act→World→Prop} {a:Act} {w:World} {gf:Nat} {lb:Array Value} {encs:α→Array Value} {u v:α→Value} {cs1 cs2:α→Array Value} {t:TypeId} {p1 p2 b1 b2:Nat} {xs:List α} {R:Nat→Prop}
  (hg:a.eval g= .func (.func gf) #[] lb) (eg: ∀args w,(callFunc gf args).run P w= .ok (.enter gf args) w) (hseq:lR P gf lb encs xs R w) (henc: ∀x,encs x= #[u x,v x])
  (I:(Nat→Prop)→List α→World→Prop) (hR: ∀k,R k→k<w.heap.size)
  (hO: ∀T pre W1 W2,I T pre W1→Touch (fun k=>k=w.heap.size∨k=w.heap.size+1) W1 W2→I T pre W2)
  (hA: ∀T pre W1 o,I T pre W1→I (fun k=>T k∨k=W1.heap.size) pre (W1.alloc o))
  (hE: ∀T pre W1 W2,I T pre W1→Ext W1 W2→I T pre W2)
  (hS: ∀T pre W1 p u,I T pre W1→T p.block→I T pre (W1.setCell p u))
  (h0:I (fun _=>False) [] w)
  (hassign: ∀x W1 (K:Act→World→Prop),(∀B1 B2 W2,Ext W1 W2→W2.heap[B1]? =some (.cells (cs1 x) t (0,0))→W2.heap[B2]? =some (.cells (cs2 x) t (0,0))→W1.heap.size≤B1→W1.heap.size≤B2→K {tmps:=(((a.tmps.setIfInBounds p1 (u x)).setIfInBounds p2 (v x)).setIfInBounds b1 (.pointer (some ⟨B1,0,none⟩))).setIfInBounds b2 (.pointer (some ⟨B2,0,none⟩)),defers:=[]} W2)→
   assign.wpIn (Fence.wide.inRound (w.heap.size+1)) 3 P (Exit.then K (fun _ _ _=>False)) {tmps:=(a.tmps.setIfInBounds p1 (u x)).setIfInBounds p2 (v x),defers:=[]} W1)
  (hbody: ∀T pre x B1 B2 W1,I T pre W1→W1.heap[B1]? =some (.cells (cs1 x) t (0,0))→W1.heap[B2]? =some (.cells (cs2 x) t (0,0))→w.heap.size+2≤B1→w.heap.size+2≤B2→w.heap.size+2≤W1.heap.size→pre++[x]<+:xs→body.wpIn (Fence.wide.inRound (w.heap.size+1)) 3 P
   (fun e _ W2=>e= .normal∧I T (pre++[x]) W2∧Touch (fun k=> ¬T k∧ ¬R k∧k≠w.heap.size∧k≠w.heap.size+1) W1 W2) {tmps:=(((a.tmps.setIfInBounds p1 (u x)).setIfInBounds p2 (v x)).setIfInBounds b1 (.pointer (some ⟨B1,0,none⟩))).setIfInBounds b2 (.pointer (some ⟨B2,0,none⟩)),defers:=[]} W1)
  (hdone: ∀T W1,I T xs W1→W1.heap[w.heap.size]? =some (.deferred (some []))→Q .normal {a with defers:={target:= .collected w.heap.size,args:= #[]}::a.defers} W1):
  (Code.rangeFunc g #[p1,p2] assign body).wpIn Fence.wide n P Q a w:=by
 refine oM hg eg hseq (fun x=>by rw[henc];rfl) I (fun x a' W=> ∃B1 B2,(w.heap.size+2≤B1∧w.heap.size+2≤B2)∧W.heap[B1]? =some (.cells (cs1 x) t (0,0))∧W.heap[B2]? =some (.cells (cs2 x) t (0,0))∧a'={tmps:=(((a.tmps.setIfInBounds p1 (u x)).setIfInBounds p2 (v x)).setIfInBounds b1 (.pointer (some ⟨B1,0,none⟩))).setIfInBounds b2 (.pointer (some ⟨B2,0,none⟩)),defers:=[]})
  hR hO hA hE hS ?_ h0 ?_ ?_ hdone
 ·rintro x a' W1 W2 ⟨B1,B2,h1,h2,h2',h3⟩ tt
  exact⟨B1,B2,h1,(tt.block B1 (Array.getElem?_eq_some_iff.1 h2).1 (fun e=>by omega)).trans h2,(tt.block B2 (Array.getElem?_eq_some_iff.1 h2').1 (fun e=>by omega)).trans h2',h3⟩
 ·intro T pre x W1 K i z hK
  have e: ∀tm:Array Value,Array.foldl (fun(t:Array Value) (x:Nat×Value)=>t.setIfInBounds x.1 x.2) tm (#[p1,p2].zip (encs x))=(tm.setIfInBounds p1 (u x)).setIfInBounds p2 (v x):=fun tm=>by rw[henc];simp
  rw[e]
  exact hassign x W1 K fun B1 B2 W2 e hb hb' hx hx'=>hK _ _ e ⟨B1,B2,⟨by omega,by omega⟩,hb,hb',rfl⟩
 ·rintro T pre x a' W1 i ⟨B1,B2,h1,h2,h2',rfl⟩ z hp
  exact hbody T pre x B1 B2 W1 i h2 h2' h1.1 h1.2 z hp
end Go.Proofs.YtaellcgglldjaaaGreat

namespace Go.Proofs.YtaellcgglldjaaaGreat
open Go.RowKit
attribute [local go_sem] Oper.semAt_some
set_option maxHeartbeats 400000 in
theorem tN {w:World} {x y:Int} (hx: -1000000≤x∧x≤1000000) (hy: -1000000≤y∧y≤1000000) {bc:Nat} {R:Nat→Prop} (B:Blk w bc 28 #[.int .i64 x, .int .i64 y]) (Rb:R bc) (hR: ∀k,R k→k<w.heap.size):
  aCb Tryz.prog 156 #[.pointer (some ⟨bc,0,none⟩)] dcV (cK x y) R w:=by
 intro lp J Jx W0 hx0 hA hE hS hEx hY hJ0
 have HE:=aA hE
 have HEX:=aA hEx
 have HY:=aA hY
 have HJ0:=aA hJ0
 have B0:=aA (B.ext hx0)
 have zbc:=B0.out.lt
 clear hA hE hS hEx hY hJ0 B hR hx0
 show Calls Tryz.prog 156 #[.func (.yield lp) #[] #[], .pointer (some ⟨bc,0,none⟩)] W0 _
 go_enter Tryz.func156,Tryz.ntmps156
 go_wp2
 go_loopw [3] (fun s3 wr=> ∃(k:Nat) (T:Nat→Prop),k≤4∧s3= .int .i64 (k:Int)∧J T ((cK x y).take k) wr∧Touch (fun j=> ¬R j) W0 wr) (fun s3 _=>4-(intOf s3).toNat)
 case atStart=>exact⟨0,fun _=>False,by omega,rfl,HJ0.out,Touch.refl _ _⟩
 case round=>
  obtain⟨k,T,hk,rfl,hJ,ht⟩:=hrel
  have J1:=aA hJ
  have T1:=aA ht
  have B1:=aA (B0.out.touch ht (fun h=>h Rb))
  have q0:=B1.out.at 0 rfl;have q1:=B1.out.at 1 rfl;have qz:=B1.out.lt
  clear hJ ht
  by_cases hlt:k<4
  ·have HN:=aA (fun w'=>uR k hlt x y hx hy w')
   have hd:decide ((k:Int)≤3)=true:=by simp;omega
   have hpre:(cK x y).take k++[((k:Int),(x+aQ k,y+aR k))]<+:cK x y:=by rw[←kR x y hlt];exact List.take_prefix _ _
   have HPRE:=aA hpre
   clear hpre
   refine(wpIn_wide (n:=4)).1 ?_
   gi_wp2_with (first
    |(refine⟨trivial,?_⟩;gi_at_call 157;refine(callsIn_wide.2 (HN.out _)).mono ?_;rintro e w2 ⟨rfl,hb2⟩;obtain⟨fn,tmps,assign,body,hyy,hRR⟩:=HY.out T _ _ w2 (HE.out _ _ _ _ J1.out hb2) HPRE.out;have HRR:=aA hRR;have HB2:=aA hb2;clear hRR hb2;unfold dcV at hyy)
    |(refine HRR.out.mono ?_;rintro e w3 h3;rcases h3 with⟨rfl,hJ3,ht3⟩|⟨rfl,hJ3,ht3⟩<;>(have J3:=aA hJ3;have T3:=aA (T1.out.trans ((Touch.of_ext HB2.out).trans (ht3.mono (fun j _ h=>h.2))));clear hJ3 ht3 hyy HRR)))
   ·go_roundw
    case rel=>exact⟨k+1,T,by omega,by go_num,by rw[kR x y hlt];exact J3.out,T3.out⟩
    case measure=>simp[intOf];omega
   ·exact bodyPost_ret (v:= .tuple #[]) (by simp[results,Tryz.results156,go_sem, *]) rfl ⟨⟨_,rfl⟩, .inr ⟨T,_,HPRE.out,J3.out⟩⟩
  ·obtain rfl:k=4:=by omega
   have J4:Hid (J T (cK x y) wr):=aA (by
    have h:=J1.out
    rw[List.take_of_length_le (by rw[jY];exact Nat.le_refl _)]at h
    exact h)
   clear J1
   go_wp2_with fail
   go_end0
   exact⟨⟨_,rfl⟩, .inl ⟨T,J4.out⟩⟩
def aLw (w w4:World) (bx byy:Int) (T:Nat→Prop) (pre:List (Int×aB)) (W1:World):Prop:=
 (∀k,T k→w4.heap.size≤k)∧Ext w W1∧w4.heap.size≤W1.heap.size∧Blk W1 (w.heap.size+1) 28 #[.int .i64 bx, .int .i64 byy]∧Blk W1 (w.heap.size+2) 3 #[.int .i64 0]∧Blk W1 (w.heap.size+3) 34 #[.int .i64 0]∧(bx,byy)∉pre.map (·.2)
def aLx (w w4:World) (c:Code) (W1:World):Prop:=c= .ret∧Ext w W1∧w4.heap.size≤W1.heap.size∧ ∃d,Blk W1 (w.heap.size+2) 3 #[.int .i64 d]∧Blk W1 (w.heap.size+3) 34 #[.int .i64 0]
set_option maxRecDepth 100000 in
set_option maxHeartbeats 1000000 in
theorem aHn {w:World} (x y bx byy:Int) (hx:0≤x∧x≤1000) (hy:0≤y∧y≤1000) (hbx:0≤bx∧bx≤1000) (hby:0≤byy∧byy≤1000):
  Calls Tryz.prog 63 #[.agg #[.int .i64 x, .int .i64 y], .agg #[.int .i64 bx, .int .i64 byy]] w fun e w'=> ∃d er,e= .returned (.tuple #[.int .i64 d, .int .i64 er])∧Ext w w'∧((bx,byy)∈(cK x y).map (·.2)→er=0):=by
 have HS1:=aA (fun w'=>iP x y w')
 have HS2:=aA (fun w'=>iP bx byy w')
 rw[show eG x y=true by simp[eG,eQ];omega]at HS1
 rw[show eG bx byy=true by simp[eG,eQ];omega]at HS2
 refine callsIn_wide.1 (callsIn_of_wp_marks (n:=4) Tryz.func63 rfl trivial ((wpIn_wide (n:=4)).2 ?_))
 simp only[Tryz.ntmps63,List.size_toArray,List.length_cons,List.length_nil,Nat.reduceAdd,Nat.reduceSub,Array.replicate_succ,Array.replicate_zero,List.push_toArray,List.append_toArray,List.nil_append,List.cons_append]
 generalize hQ:bodyPostM _ _ _ _ _=Q'
 have HQ:=aA hQ
 clear hQ
 go_wp2_with fail
 refine(HS1.out _).mono ?_
 rintro e w1 ⟨rfl,hb1⟩
 have B0:Hid (Blk w1 (w.heap.size) 28 #[.int .i64 x, .int .i64 y]):=aA (by refine Blk.ext ?_ hb1;(repeat' (first|exact Blk.new_ (by simp)|refine Blk.drew ?_|refine Blk.over ?_)))
 have B1:Hid (Blk w1 (w.heap.size+1) 28 #[.int .i64 bx, .int .i64 byy]):=aA (by refine Blk.ext ?_ hb1;(repeat' (first|exact Blk.new_ (by simp)|refine Blk.drew ?_|refine Blk.over ?_)))
 have B2:Hid (Blk w1 (w.heap.size+2) 3 #[.int .i64 0]):=aA (by refine Blk.ext ?_ hb1;(repeat' (first|exact Blk.new_ (by simp)|refine Blk.drew ?_|refine Blk.over ?_)))
 have B3:Hid (Blk w1 (w.heap.size+3) 34 #[.int .i64 0]):=aA (by refine Blk.ext ?_ hb1;(repeat' (first|exact Blk.new_ (by simp)|refine Blk.drew ?_|refine Blk.over ?_)))
 have X1:=aA (show Ext w w1 from z_x)
 have p0:=B0.out.at 0 rfl;have p1:=B0.out.at 1 rfl;have pz:=B0.out.lt
 have q0:=B1.out.at 0 rfl;have q1:=B1.out.at 1 rfl;have qz:=B1.out.lt
 clear hb1
 go_wp2_with fail
 refine(HS2.out _).mono ?_
 rintro e w2 ⟨rfl,hb2⟩
 have hx12:Ext w1 w2:=z_x
 have X2:=aA (X1.out.trans hx12)
 have C0:=aA (B0.out.ext hx12)
 have C1:=aA (B1.out.ext hx12)
 have C2:=aA (B2.out.ext hx12)
 have C3:=aA (B3.out.ext hx12)
 clear hb2 p0 p1 pz q0 q1 qz B0 B1 B2 B3 hx12 X1
 have p0:=C0.out.at 0 rfl;have p1:=C0.out.at 1 rfl;have pz:=C0.out.lt
 go_wp2_with fail
 refine(qH x y _).mono ?_
 rintro e w4 ⟨rfl,hw4⟩
 have h24:Ext w2 w4:=by rw[hw4];exact(Ext.refl _).alloc _
 have z4:w4.heap.size=w2.heap.size+1:=by rw[hw4];simp
 have BC:=aA (show Blk w4 w2.heap.size 28 #[.int .i64 x, .int .i64 y] by rw[hw4];exact Blk.new_ rfl)
 have D1:=aA (C1.out.ext h24)
 have D2:=aA (C2.out.ext h24)
 have D3:=aA (C3.out.ext h24)
 have X4:=aA (X2.out.trans h24)
 have zc2:=C3.out.lt
 clear hw4 h24 p0 p1 pz C0 C1 C2 C3 X2 HS1 HS2
 go_wp2_with fail
 have hseq:=tN (w:=w4) (x:=x) (y:=y) (R:=fun k=>k=w2.heap.size) (by omega) (by omega) BC.out rfl (fun k hk=>by omega)
 have eg: ∀args w,(callFunc 156 args).run Tryz.prog w= .ok (.enter 156 args) w:=enters_of Tryz.func156 (by kernel_rfl) rfl
 refine(wpIn_wide (n:=4)).1 ?_
 refine uI (g:= .tmp 17) (p1:=18) (p2:=19) (d:=6) (bs:=7) (u:=fun q:Int×aB=> .int .i64 q.1) (v:=fun q:Int×aB=> .agg #[.int .i64 q.2.1, .int .i64 q.2.2]) (cs:=fun q:Int×aB=> #[.int .i64 q.2.1, .int .i64 q.2.2]) (t:=28) (gf:=156) rfl eg hseq (fun _=>rfl)
  (aLw w w4 bx byy) (fun c T pre W1=>aLx w w4 c W1)
  (fun k hk=>by omega) ?hO ?hA ?hE ?hS ?hOx ?hEx ⟨fun _ h=>h.elim,X4.out,Nat.le_refl _,D1.out,D2.out,D3.out,by simp⟩ ?assign ?body ?done ?stop
 case hO=>
  rintro T pre W1 W2 ⟨i1,i2,i3,i4,i5,i6,i7⟩ tt
  exact⟨i1,((Touch.of_ext (S:=fun _=>False) i2).after tt (fun k hk h=>by omega)).ext,Nat.le_trans i3 tt.size,i4.touch tt (fun h=>by omega),i5.touch tt (fun h=>by omega),i6.touch tt (fun h=>by omega),i7⟩
 case hA=>
  rintro T pre W1 o ⟨i1,i2,i3,i4,i5,i6,i7⟩
  exact⟨fun k hk=>hk.elim (i1 k) (fun e=>by omega),i2.alloc _,by simp;omega,i4.over,i5.over,i6.over,i7⟩
 case hE=>
  rintro T pre W1 W2 ⟨i1,i2,i3,i4,i5,i6,i7⟩ e
  exact⟨i1,i2.trans e,Nat.le_trans i3 e.size,i4.ext e,i5.ext e,i6.ext e,i7⟩
 case hS=>
  rintro T pre W1 q u ⟨i1,i2,i3,i4,i5,i6,i7⟩ hq
  have tt:Touch (fun k=>k=q.block) W1 (W1.setCell q u):=(Touch.refl (fun k=>k=q.block) W1).setCell (.inl rfl) u
  have hqb:=i1 _ hq
  exact⟨i1,i2.setCell (by omega) _,Nat.le_trans i3 tt.size,i4.touch tt (fun h=>by omega),i5.touch tt (fun h=>by omega),i6.touch tt (fun h=>by omega),i7⟩
 case hOx=>
  rintro c T pre W1 W2 ⟨i0,i2,i3,d,i5,i6⟩ tt
  exact⟨i0,((Touch.of_ext (S:=fun _=>False) i2).after tt (fun k hk h=>by omega)).ext,Nat.le_trans i3 tt.size,d,i5.touch tt (fun h=>by omega),i6.touch tt (fun h=>by omega)⟩
 case hEx=>
  rintro c T pre W1 W2 ⟨i0,i2,i3,d,i5,i6⟩ e
  exact⟨i0,i2.trans e,Nat.le_trans i3 e.size,d,i5.ext e,i6.ext e⟩
 case assign=>
  intro q W1 K hK
  clear z4
  simp only[List.setIfInBounds_toArray,List.set_cons_zero,List.set_cons_succ]at hK⊢
  gi_wp2
  exact hK W1.heap.size _ z_x (gP _ _) (Nat.le_refl _)
 case body=>
  rintro T pre ⟨d,qx,qy⟩ Bx W1 ⟨i1,i2,i3,i4,i5,i6,i7⟩ hb hz hz2 hpre
  have Z4:=aA z4
  clear z4
  simp only[List.setIfInBounds_toArray,List.set_cons_zero,List.set_cons_succ]
  have BB:Hid (Blk W1 Bx 28 #[.int .i64 qx, .int .i64 qy]):=aA hb
  have I1:=aA i1
  have I2:=aA i2
  have I4:=aA i4
  have I5:=aA i5
  have I6:=aA i6
  have I7:=aA i7
  have q0:=BB.out.at 0 rfl;have q1:=BB.out.at 1 rfl;have qz:=BB.out.lt
  have p0:=I4.out.at 0 rfl;have p1:=I4.out.at 1 rfl;have pz:=I4.out.lt
  have r0:=I5.out.at 0 rfl;have rz:=I5.out.lt
  have s0:=I6.out.at 0 rfl;have sz:=I6.out.lt
  have r1:=I5.out.frozen 0
  have s1:=I6.out.frozen 0
  clear hb i1 i2 i4 i5 i6 i7 hpre
  by_cases he:(qx,qy)=(bx,byy)
  ·have hq1: ∀w,(Op.equalIn 10000 28 (.agg #[.int .i64 qx, .int .i64 qy]) (.agg #[.int .i64 bx, .int .i64 byy])).run Tryz.prog w= .ok true w:=fun w=>by rw[bJ (qx,qy) (bx,byy) w,aX,decide_eq_true he]
   clear he
   gi_wp2_with fail
   have tt:Touch (fun j=>j=w.heap.size+2∨j=w.heap.size+3) W1 ((W1.setCell ⟨w.heap.size+2,0,none⟩ (.int .i64 d)).setCell ⟨w.heap.size+3,0,none⟩ (.int .i64 0)):=((Touch.refl (fun j=>j=w.heap.size+2∨j=w.heap.size+3) W1).setCell (p:=⟨w.heap.size+2,0,none⟩) (.inl (.inl rfl)) _).setCell (p:=⟨w.heap.size+3,0,none⟩) (.inl (.inr rfl)) _
   have ta:Touch (fun j=>j=w.heap.size+2) W1 (W1.setCell ⟨w.heap.size+2,0,none⟩ (.int .i64 d)):=(Touch.refl (fun j=>j=w.heap.size+2) W1).setCell (p:=⟨w.heap.size+2,0,none⟩) (.inl rfl) _
   have tb:Touch (fun j=>j=w.heap.size+3) (W1.setCell ⟨w.heap.size+2,0,none⟩ (.int .i64 d)) ((W1.setCell ⟨w.heap.size+2,0,none⟩ (.int .i64 d)).setCell ⟨w.heap.size+3,0,none⟩ (.int .i64 0)):=(Touch.refl (fun j=>j=w.heap.size+3) _).setCell (p:=⟨w.heap.size+3,0,none⟩) (.inl rfl) _
   have z4:=Z4.out
   refine⟨.inr ⟨.ret,rfl,rfl,?_,Nat.le_trans i3 tt.size,d,?_,?_⟩,?_⟩
   ·exact((Touch.of_ext (S:=fun _=>False) I2.out).after tt (fun k hk h=>by omega)).ext
   ·exact(I5.out.set_ 0 (.int .i64 d)).touch tb (fun h=>by omega)
   ·exact(I6.out.touch ta (fun h=>by omega)).set_ 0 (.int .i64 0)
   ·exact tt.mono (fun k hk h=>⟨fun hT=>by have:=I1.out k hT;omega,by omega,by omega,by omega⟩)
  ·have hq1: ∀w,(Op.equalIn 10000 28 (.agg #[.int .i64 qx, .int .i64 qy]) (.agg #[.int .i64 bx, .int .i64 byy])).run Tryz.prog w= .ok false w:=fun w=>by rw[bJ (qx,qy) (bx,byy) w,aX,decide_eq_false he]
   have HE:=aA he
   clear he
   gi_wp2_with fail
   refine⟨.inl ⟨I1.out,I2.out,i3,I4.out,I5.out,I6.out,?_⟩,Touch.refl _ _⟩
   rw[List.map_append,List.mem_append]
   rintro(h|h)
   ·exact I7.out h
   ·simp only[List.map_cons,List.map_nil,List.mem_singleton]at h
    exact HE.out h.symm
 case done=>
  rintro T W1 ⟨i1,i2,i3,i4,i5,i6,i7⟩ hD
  dsimp only
  have I2:=aA i2
  have ID:=aA hD
  have I7:=aA i7
  have Z4:=aA z4
  have r0:=i5.at 0 rfl
  have s0:=i6.at 0 rfl
  have r1:=i5.frozen 0
  have s1:=i6.frozen 0
  have rz:=i5.lt
  have sz:=i6.lt
  have I5:=aA i5
  have I6:=aA i6
  clear i5 i6 i2 hD i1 i4 i7 z4
  go_wp2_with fail
  obtain⟨W2,hW2⟩: ∃z,z=(W1.setCell ⟨w.heap.size+2,0,none⟩ (.int .i64 0)).setCell ⟨w.heap.size+3,0,none⟩ (.int .i64 1):=⟨_,rfl⟩
  have ta:Touch (fun j=>j=w.heap.size+2) W1 (W1.setCell ⟨w.heap.size+2,0,none⟩ (.int .i64 0)):=(Touch.refl (fun j=>j=w.heap.size+2) W1).setCell (p:=⟨w.heap.size+2,0,none⟩) (.inl rfl) _
  have tb:Touch (fun j=>j=w.heap.size+3) (W1.setCell ⟨w.heap.size+2,0,none⟩ (.int .i64 0)) W2:=by rw[hW2];exact(Touch.refl (fun j=>j=w.heap.size+3) _).setCell (p:=⟨w.heap.size+3,0,none⟩) (.inl rfl) _
  have z4:=Z4.out
  have A5:Blk W2 (w.heap.size+2) 3 #[.int .i64 0]:=(I5.out.set_ 0 (.int .i64 0)).touch tb (fun h=>by omega)
  have A6:Blk W2 (w.heap.size+3) 34 #[.int .i64 1]:=by rw[hW2];exact(I6.out.touch ta (fun h=>by omega)).set_ 0 (.int .i64 1)
  have hzd:=(Array.getElem?_eq_some_iff.1 ID.out).1
  have hd2:W2.heap[w4.heap.size]? =some (.deferred (some [])):=(tb.block _ (by have:=ta.size;omega) (fun h=>by omega)).trans ((ta.block _ (by omega) (fun h=>by omega)).trans ID.out)
  have xx:Ext w W2:=(((Touch.of_ext (S:=fun _=>False) I2.out).after ta (fun k hk h=>by omega)).after tb (fun k hk h=>by omega)).ext
  rw[←hW2,←HQ.out]
  refine⟨by simp, .inl ⟨_,_,rfl,run_takeDeferred hd2,?_⟩⟩
  have t6:Touch (fun j=>j=w4.heap.size) W2 (W2.putObj w4.heap.size (.deferred none)):=bC _ _
  have f0:=(A5.touch t6 (fun h=>by omega)).at 0 rfl
  have f1:=(A6.touch t6 (fun h=>by omega)).at 0 rfl
  refine⟨.tuple #[.int .i64 0, .int .i64 1],by simp[results,Tryz.results63,go_sem,f0,f1],?_⟩
  refine⟨_,_,rfl,((Touch.of_ext (S:=fun _=>False) xx).after t6 (fun k hk e=>by omega)).ext,fun h=>absurd h I7.out⟩
 case stop=>
  rintro c T pre W1 hp ⟨rfl,i2,i3,d,i5,i6⟩ hD
  dsimp only
  have I2:=aA i2
  have ID:=aA hD
  have r0:=i5.at 0 rfl
  have s0:=i6.at 0 rfl
  have I5:=aA i5
  have I6:=aA i6
  have Z4:=aA z4
  clear i5 i6 i2 hD z4
  refine(wpIn_wide (n:=4)).2 ?_
  go_wp2_with fail
  have z4:=Z4.out
  rw[←HQ.out]
  refine⟨by simp, .inl ⟨_,_,rfl,run_takeDeferred ID.out,?_⟩⟩
  have t6:Touch (fun j=>j=w4.heap.size) W1 (W1.putObj w4.heap.size (.deferred none)):=bC _ _
  have f0:=(I5.out.touch t6 (fun h=>by omega)).at 0 rfl
  have f1:=(I6.out.touch t6 (fun h=>by omega)).at 0 rfl
  refine⟨.tuple #[.int .i64 d, .int .i64 0],by simp[results,Tryz.results63,go_sem,f0,f1],?_⟩
  refine⟨_,_,rfl,((Touch.of_ext (S:=fun _=>False) I2.out).after t6 (fun k hk e=>by omega)).ext,fun _=>rfl⟩
end Go.Proofs.YtaellcgglldjaaaGreat

namespace Go.Proofs.YtaellcgglldjaaaGreat
open Go.RowKit
attribute [local go_sem] Oper.semAt_some
def dP (p:List aB):List (aB×aB):=(List.range p.length).map fun i=>(p.getD (i-1) (0,0),p.getD i (0,0))
theorem oG (p:List aB):(dP p).length=p.length:=by simp[dP]
theorem aB3 (p:List aB) {k:Nat} (hk:k<p.length):(dP p).take (k+1)=(dP p).take k++[(p.getD (k-1) (0,0),p.getD k (0,0))]:=by
 have hl:k<(dP p).length:=by rw[oG];exact hk
 rw[List.take_add_one,List.getElem?_eq_getElem hl]
 simp[dP]
def ccV (q:aB×aB):Array Value:= #[.agg #[.int .i64 q.1.1, .int .i64 q.1.2], .agg #[.int .i64 q.2.1, .int .i64 q.2.2]]
theorem aB0 (a:Option Addr) (n c:Nat) (w:World):Calls Tryz.prog 62 #[.slice a n c] w fun e w'=>e= .returned (.func (.func 110) #[] #[.pointer (some ⟨w.heap.size,0,none⟩)])∧w'=w.alloc (.cells #[.slice a n c] 37):=by
 go_enter Tryz.func62,Tryz.ntmps62
 go_wp2
 go_ret
 exact⟨rfl,rfl⟩
set_option maxHeartbeats 2000000 in
set_option maxRecDepth 100000 in
theorem wA {w:World} {p:List aB} (hp:p.length≤1000000) {bp b off cc:Nat} {R:Nat→Prop} (B:Blk w bp 37 #[.slice (some ⟨b,off,none⟩) p.length cc]) (Rp:R bp) (Rb:R b) (hr:RowC w (some ⟨b,off,none⟩) p) (hR: ∀k,R k→k<w.heap.size):
  lR Tryz.prog 110 #[.pointer (some ⟨bp,0,none⟩)] ccV (dP p) R w:=by
 intro lp J W0 hx0 hA hE hS hY hJ0
 have HE:=aA hE
 have HY:=aA hY
 have HJ0:=aA hJ0
 have B0:=aA (B.ext hx0)
 have HC:=aA (hr.ext hx0)
 have HRS:=aA (fun k hk=>Nat.lt_of_lt_of_le (hR k hk) hx0.size: ∀k,R k→k<W0.heap.size)
 have HTK:=aA (fun k (hk:k<p.length)=>aB3 p hk)
 have HSL:=aA (oG p)
 obtain⟨m,hm⟩: ∃z,p.length=z:=⟨_,rfl⟩
 have HMM:=aA hm
 rw[hm]at B0 HTK HSL hp
 clear hA hE hS hY hJ0 B hR hx0 hr hm
 show Calls Tryz.prog 110 #[.func (.yield lp) #[] #[], .pointer (some ⟨bp,0,none⟩)] W0 _
 have b0:=B0.out.at 0 rfl
 have bz:=B0.out.lt
 go_enter Tryz.func110,Tryz.ntmps110
 go_wp2
 clear b0 bz
 go_loopw [3,7] (fun s3 iv wr=> ∃(k:Nat) (T:Nat→Prop),k≤m∧iv= .int .i64 (k:Int)∧J T ((dP p).take k) wr∧Touch (fun j=> ¬R j) W0 wr) (fun _ iv _=>m-(intOf iv).toNat)
 case atStart=>exact⟨0,fun _=>False,by omega,rfl,HJ0.out,Touch.refl _ _⟩
 case round=>
  obtain⟨k,T,hk,rfl,hJ,ht⟩:=hrel
  have J1:=aA hJ
  have T1:=aA ht
  have B1:=aA (B0.out.touch ht (fun h=>h Rp))
  have hcr: ∀(i:Nat) (q:aB),p.getD i (0,0)=q→i<m→wr.cell? ⟨b,off+i*2,none⟩=some (.int .i64 q.1)∧wr.cell? ⟨b,off+i*2+1,none⟩=some (.int .i64 q.2)∧b<wr.heap.size:=fun i q hq hi=>by
   obtain⟨b',off',e,hb,hc⟩:=HC.out (by rw[HMM.out];omega)
   injection e with e
   injection e with e1 e2 _
   subst e1 e2
   have hil:i<p.length:=by rw[HMM.out];exact hi
   have hq':p[i]=q:=by rw[←hq];simp[List.getD_eq_getElem?_getD,hil]
   have:=hc i hil
   rw[hq']at this
   exact⟨(ht.cell (p:=⟨b,off+i*2,none⟩) hb (fun h=>h Rb)).trans this.1,(ht.cell (p:=⟨b,off+i*2+1,none⟩) hb (fun h=>h Rb)).trans this.2,Nat.lt_of_lt_of_le hb ht.size⟩
  have q0:=B1.out.at 0 rfl
  have qz:=B1.out.lt
  by_cases hlt:k<m
  ·obtain⟨q,hq⟩: ∃z,p.getD k (0,0)=z:=⟨_,rfl⟩
   obtain⟨u,hu⟩: ∃z,p.getD (k-1) (0,0)=z:=⟨_,rfl⟩
   obtain⟨c0,c1,cz⟩:=hcr k q hq hlt
   obtain⟨d0,d1,_⟩:=hcr (k-1) u hu (by omega)
   have hpre:(dP p).take k++[(u,q)]<+:dP p:=by rw[←hq,←hu,←HTK.out k hlt];exact List.take_prefix _ _
   have HPRE:=aA hpre
   have HNX:=aA (show(dP p).take (k+1)=(dP p).take k++[(u,q)] by rw[←hq,←hu];exact HTK.out k hlt)
   have jk:(k:Int)<(m:Int):=by omega
   have huq:k=0→u=q:=fun h=>by subst h;rw[←hu,←hq]
   clear hpre hcr hJ ht hq hu
   obtain⟨qx,qy⟩:=q
   obtain⟨ux,uy⟩:=u
   simp only at c0 c1 d0 d1
   refine(wpIn_wide (n:=4)).1 ?_
   obtain⟨fn,tmps,assign,body,hyy,hRR⟩:=HY.out T _ _ ((wr.alloc (.cells #[.int .i64 qx, .int .i64 qy] 28)).drew) (HE.out _ _ _ _ J1.out z_x) HPRE.out
   have HRR:=aA hRR
   clear hRR
   unfold ccV at hyy
   by_cases hk0:k=0
   ·subst hk0
    have huq0:=huq rfl
    injection huq0 with hux huy
    subst hux huy
    simp only[Nat.zero_sub,Nat.zero_mul,Nat.add_zero]at c0 c1 d0 d1
    clear d0 d1 huq
    have h1:max (IntKind.i64.wrap (((0:Nat):Int)-1)) 0=0:=by decide
    have h2:max (-1:Int) 0=0:=by decide
    have h3:max (IntKind.i64.wrap ((0:Int)-1)) 0=0:=by decide
    have h4:IntKind.i64.wrap (-1)= -1:=by decide
    have h5:max (IntKind.i64.wrap (-1)) 0=0:=by decide
    gi_wp2_with fail
    gi_region_with (refine HRR.out.mono ?_;rintro e w3 ⟨rfl,hJ3,ht3⟩;have J3:=aA hJ3;have T3:=aA (T1.out.trans ((Touch.of_ext (show Ext wr _ from z_x)).trans (ht3.mono (fun j _ h=>h.2))));clear hJ3 ht3 hyy HRR)
    all_goals
     gi_wp2_with fail
     go_roundw
     case rel=>exact⟨0+1,T,hlt,by go_num,by rw[HNX.out];exact J3.out,T3.out⟩
     case measure=>simp[intOf];omega
   ·clear huq
    obtain⟨k',rfl⟩: ∃z,k=z+1:=⟨k-1,by omega⟩
    simp only[Nat.add_sub_cancel]at d0 d1
    have s1:IntKind.i64.wrap ((k':Int)+1-1)=(k':Int):=by rw[Int.add_sub_cancel];exact IntWalk.i64_in _ (by omega)
    have s3:IntKind.i64.wrap (k':Int)=(k':Int):=IntWalk.i64_in _ (by omega)
    have jk':(k':Int)<(m:Int):=by omega
    have h1:max (k':Int) 0=(k':Int):=by omega
    gi_wp2_with fail
    gi_region_with (refine HRR.out.mono ?_;rintro e w3 ⟨rfl,hJ3,ht3⟩;have J3:=aA hJ3;have T3:=aA (T1.out.trans ((Touch.of_ext (show Ext wr _ from z_x)).trans (ht3.mono (fun j _ h=>h.2))));clear hJ3 ht3 hyy HRR)
    all_goals
     gi_wp2_with fail
     go_roundw
     case rel=>exact⟨k'+1+1,T,hlt,by go_num,by rw[HNX.out];exact J3.out,T3.out⟩
     case measure=>simp[intOf];omega
  ·obtain rfl:k=m:=by omega
   have J4:Hid (J T (dP p) wr):=aA (by
    have h:=J1.out
    rw[List.take_of_length_le (by rw[HSL.out];exact Nat.le_refl _)]at h
    exact h)
   clear J1 hJ ht hcr
   go_wp2_with fail
   go_end0
   exact⟨⟨_,rfl⟩,T,J4.out⟩
end Go.Proofs.YtaellcgglldjaaaGreat

