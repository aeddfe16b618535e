/- Part of a proof: RangeN SeqN. -/
import Derived.Test.YtaellcgglldjaaaGreatHierFindsQ01
import Derived.OrdersIn
import Derived.Stop.RegionWithIn
set_option linter.all false
set_option linter.unusedVariables false
set_option linter.unusedSimpArgs false
namespace Go.Proofs.YtaellcgglldjaaaGreat
open Go.RowKit
def IterN {α:Type} (P:Program) (gf:Nat) (lb:Array Value) (encs:α→Array Value) (xs:List α) (R:Nat→Prop) (w:World):Prop:=
 ∀(l:Nat) (J:(Nat→Prop)→List α→World→Prop) (W:World),Ext w W→
  (∀T pre W1 o,J T pre W1→J (fun k=>T k∨k=W1.heap.size) pre (W1.alloc o))→
  (∀T pre W1 W2,J T pre W1→Ext W1 W2→J T pre W2)→
  (∀T pre W1 W2,J T pre W1→Ext W1 W2→J (fun k=>T k∨(W1.heap.size≤k∧k<W2.heap.size)) pre W2)→
  (∀T pre W1 p u,J T pre W1→T p.block→J T pre (W1.setCell p u))→
  (∀T pre x W1,J T pre W1→pre++[x]<+:xs→YieldAt Fence.wide 3 P l (encs x) W1 fun e W'=>e= .returned (.bool true)∧J T (pre++[x]) W'∧Touch (fun k=> ¬T k∧ ¬R k) W1 W')→
  J (fun _=>False) [] W→
  Calls P gf (#[.func (.yield l) #[] #[]]++lb) W fun e W'=>(∃v,e= .returned v)∧ ∃T,J T xs W'
theorem aF5 {α:Type} {P:Program} {n:Nat} {g:Operand} {ps:Array Tmp} {assign body:Code} {Q:Exit→Act→World→Prop} {a:Act} {w:World} {gf:Nat} {lb:Array Value} {encs:α→Array Value} {xs:List α} {R:Nat→Prop}
  (hg:a.eval g= .func (.func gf) #[] lb) (eg: ∀args w,(callFunc gf args).run P w= .ok (.enter gf args) w) (hseq:IterN P gf lb encs xs R w) (hps: ∀x,(encs x).size=ps.size)
  (I:(Nat→Prop)→List α→World→Prop) (Ax:α→Act→World→Prop) (hR: ∀k,R k→k<w.heap.size)
  (hO: ∀T pre W1 W2,I T pre W1→Touch (fun k=>k=w.heap.size∨k=w.heap.size+1) W1 W2→I T pre W2)
  (hA: ∀T pre W1 o,I T pre W1→I (fun k=>T k∨k=W1.heap.size) pre (W1.alloc o))
  (hE: ∀T pre W1 W2,I T pre W1→Ext W1 W2→I T pre W2)
  (hN: ∀T pre W1 W2,I T pre W1→Ext W1 W2→I (fun k=>T k∨(W1.heap.size≤k∧k<W2.heap.size)) pre W2)
  (hS: ∀T pre W1 p u,I T pre W1→T p.block→I T pre (W1.setCell p u))
  (hAx: ∀x a' W1 W2,Ax x a' W1→Touch (fun k=>k=w.heap.size∨k=w.heap.size+1) W1 W2→Ax x a' W2)
  (h0:I (fun _=>False) [] w)
  (hassign: ∀T pre x W1 (K:Act→World→Prop),I T pre W1→w.heap.size+2≤W1.heap.size→(∀a' W2,Ext W1 W2→Ax x a' W2→K a' W2)→
   assign.wpIn (Fence.wide.inRound (w.heap.size+1)) 3 P (Exit.then K (fun _ _ _=>False)) {tmps:=(ps.zip (encs x)).foldl (fun t (p,v)=>t.setIfInBounds p v) a.tmps,defers:=[]} W1)
  (hbody: ∀T pre x a' W1,I T pre W1→Ax x a' W1→w.heap.size+2≤W1.heap.size→pre++[x]<+:xs→body.wpIn (Fence.wide.inRound (w.heap.size+1)) 3 P
   (fun e _ W2=>e= .normal∧I T (pre++[x]) W2∧Touch (fun k=> ¬T k∧ ¬R k∧k≠w.heap.size∧k≠w.heap.size+1) W1 W2) a' W1)
  (hdone: ∀T W1,I T xs W1→W1.heap[w.heap.size]? =some (.deferred (some []))→Q .normal {a with defers:={target:= .collected w.heap.size,args:= #[]}::a.defers} W1):
  (Code.rangeFunc g ps assign body).wpIn Fence.wide n P Q a w:=by
 refine wpIn_rangeFunc ?_
 intro fn hfn
 obtain⟨rec,hrec⟩: ∃rec:LoopState→Option Code→Loop,rec=fun st pe=>{state:=st,pending:=pe,fn,tmps:=a.tmps,params:=ps,assign,body,defers:=w.heap.size}:=⟨_,rfl⟩
 obtain⟨W1,hW1⟩: ∃W1,(w.alloc (.deferred (some []))).alloc (.loop (rec .ready none))=W1:=⟨_,rfl⟩
 have hL1:W1.heap[w.heap.size+1]? =some (.loop (rec .ready none)):=by
  rw[←hW1];have:=World.alloc_heap_new (w.alloc (.deferred (some []))) (.loop (rec .ready none));rwa [World.size_alloc]at this
 have hK1:W1.heap[w.heap.size]? =some (.deferred (some [])):=by
  rw[←hW1];exact(Below.heap_alloc _ _ _ (by simp)).trans (World.alloc_heap_new w _)
 have hx1:Ext w W1:=by rw[←hW1];exact((Ext.refl w).alloc _).alloc _
 have hI1:I (fun _=>False) [] W1:=hE _ _ _ _ h0 hx1
 have hz1:w.heap.size+2≤W1.heap.size:=by rw[←hW1];simp
 refine⟨w.heap.size+1,[{target:= .collected w.heap.size,args:= #[]}],W1,{target:= .fn (.func gf) lb,args:= #[.func (.yield (w.heap.size+1)) #[] #[]]},W1,gf,
  #[.func (.yield (w.heap.size+1)) #[] #[]]++lb,W1,?_,?_,?_,?_,fun h=>by simp[Fence.wide]at h,?_⟩
 ·rw[←hW1,hrec];exact run_enterLoop_outer _ _ _ _ _
 ·simp only[resolve,hg]
  simp[go_sem]
 ·intro f' _;exact trivial
 ·simp[invoke,go_sem,eg]
 refine callsIn_wide.2 ((hseq (w.heap.size+1)
  (fun T pre W=>I T pre W∧ ¬T w.heap.size∧ ¬T (w.heap.size+1)∧w.heap.size+2≤W.heap.size∧W.heap[w.heap.size+1]? =some (.loop (rec .ready none))∧W.heap[w.heap.size]? =some (.deferred (some [])))
  W1 hx1 ?_ ?_ ?_ ?_ ?_ ⟨hI1,fun x=>x,fun x=>x,hz1,hL1,hK1⟩).mono ?_)
 ·rintro T pre W o ⟨i,t1,t2,z,hl,hk⟩
  refine⟨hA _ _ _ _ i,fun h=>h.elim t1 (fun e=>by omega),fun h=>h.elim t2 (fun e=>by omega),by simp;omega,?_,?_⟩
  ·exact(Below.heap_alloc _ _ _ (by omega)).trans hl
  exact(Below.heap_alloc _ _ _ (by omega)).trans hk
 ·rintro T pre W W' ⟨i,t1,t2,z,hl,hk⟩ e
  exact⟨hE _ _ _ _ i e,t1,t2,Nat.le_trans z e.size,(e.block (by omega)).trans hl,(e.block (by omega)).trans hk⟩
 ·rintro T pre W W' ⟨i,t1,t2,z,hl,hk⟩ e
  exact⟨hN _ _ _ _ i e,fun h=>h.elim t1 (fun h=>by omega),fun h=>h.elim t2 (fun h=>by omega),Nat.le_trans z e.size,(e.block (by omega)).trans hl,(e.block (by omega)).trans hk⟩
 ·rintro T pre W p u ⟨i,t1,t2,z,hl,hk⟩ hp
  have tt:Touch (fun k=>k=p.block) W (W.setCell p u):=(Touch.refl (fun k=>k=p.block) W).setCell (.inl rfl) u
  exact⟨hS _ _ _ _ _ i hp,t1,t2,Nat.le_trans z tt.size,(tt.block (w.heap.size+1) (by omega) (fun e=>t2 (by rw[show w.heap.size+1=p.block from e];exact hp))).trans hl,(tt.block w.heap.size (by omega) (fun e=>t1 (by rw[show w.heap.size=p.block from e];exact hp))).trans hk⟩
 ·rintro T pre x W ⟨i,t1,t2,z,hl,hk⟩ hpre
  have hy:=run_yield (P:=P) (args:=encs x) hl (by rw[hrec];exact hps x)
  rw[hrec]at hy
  refine⟨fn,_,assign,body,hy,roundIn_of_wpIn hfn (hassign T pre x W _ i z ?_)⟩
  clear hy
  intro a' W2 e2 ax
  have hl2:=(e2.block (k:=w.heap.size+1) (by omega)).trans hl
  have hk2:=(e2.block (k:=w.heap.size) (by omega)).trans hk
  have i2:=hE _ _ _ _ i e2
  have z2:=Nat.le_trans z e2.size
  refine⟨_,run_beginRound hl2 (by rw[hrec]),?_⟩
  obtain⟨W3,hW3⟩: ∃W3,W2.putObj (w.heap.size+1) (.loop {rec .ready none with state:= .busy})=W3:=⟨_,rfl⟩
  have t3:Touch (fun k=>k=w.heap.size+1) W2 W3:=by rw[←hW3];exact cZ _ _
  have hl3:W3.heap[w.heap.size+1]? =some (.loop {rec .ready none with state:= .busy}):=by rw[←hW3];exact World.putObj_heap_same (by omega)
  have hk3:W3.heap[w.heap.size]? =some (.deferred (some [])):=(t3.block _ (by omega) (by omega)).trans hk2
  have i3:=hO _ _ _ _ i2 (t3.mono (fun k _ h=> .inr h))
  have ax3:=hAx _ _ _ _ ax (t3.mono (fun k _ h=> .inr h))
  have z3:=Nat.le_trans z2 t3.size
  rw[hW3]
  refine wpIn_mono (hbody T pre x a' W3 i3 ax3 z3 hpre) ?_
  rintro e a4 W4 ⟨rfl,i4,t4⟩
  have hl4:=(t4.block (w.heap.size+1) (by omega) (fun h=>h.2.2.2 rfl)).trans hl3
  have hk4:=(t4.block w.heap.size (by omega) (fun h=>h.2.2.1 rfl)).trans hk3
  have z4:=Nat.le_trans z3 t4.size
  have hr:=run_endRound (P:=P) none hl4
  rw[hrec]at hr
  have t5:Touch (fun k=>k=w.heap.size+1) W4 (W4.putObj (w.heap.size+1) (.loop (rec .ready none))):=cZ _ _
  refine⟨_,_,hr,rfl,⟨?_,t1,t2,?_,?_,?_⟩,?_⟩
  ·have:=hO _ _ _ _ i4 (t5.mono (fun k _ h=> .inr h))
   rw[hrec]at this
   exact this
  ·simp;omega
  ·rw[hrec];exact World.putObj_heap_same (by omega)
  ·exact(World.putObj_heap_other (by omega)).trans hk4
  have t6:=((Touch.of_ext (S:=fun k=> ¬T k∧ ¬R k) e2).trans (t3.mono (fun k _ h=>by subst h;exact⟨t2,fun hr=>by have:=hR _ hr;omega⟩))).trans (t4.mono (S':=fun k=> ¬T k∧ ¬R k) (fun k _ h=>⟨h.1,h.2.1⟩))
  have t7:=t6.trans (t5.mono (S':=fun k=> ¬T k∧ ¬R k) (fun k _ h=>by subst h;exact⟨t2,fun hr=>by have:=hR _ hr;omega⟩))
  rw[hrec]at t7
  exact t7
 rintro e W2 ⟨⟨v,rfl⟩,T,i,t1,t2,z,hl,hk⟩
 refine⟨none,_,by have:=run_endLoop (P:=P) hl (by rw[hrec];simp);rw[hrec]at this;exact this,?_⟩
 exact hdone T _ (hO _ _ _ _ i ((cZ (w.heap.size+1) _).mono (fun k _ h=> .inr h))) ((World.putObj_heap_other (by omega)).trans hk)
theorem xL {α:Type} {P:Program} {n:Nat} {g:Operand} {assign body:Code} {Q:Exit→Act→World→Prop} {a:Act} {w:World} {gf:Nat} {lb:Array Value} {v:α→Value} {cs:α→Array Value} {t:TypeId} {psl bs:Nat} {xs:List α} {R:Nat→Prop}
  (hg:a.eval g= .func (.func gf) #[] lb) (eg: ∀args w,(callFunc gf args).run P w= .ok (.enter gf args) w) (hseq:IterN P gf lb (fun x=> #[v x]) xs R w)
  (I:(Nat→Prop)→List α→World→Prop) (hR: ∀k,R k→k<w.heap.size)
  (hO: ∀T pre W1 W2,I T pre W1→Touch (fun k=>k=w.heap.size∨k=w.heap.size+1) W1 W2→I T pre W2)
  (hA: ∀T pre W1 o,I T pre W1→I (fun k=>T k∨k=W1.heap.size) pre (W1.alloc o))
  (hE: ∀T pre W1 W2,I T pre W1→Ext W1 W2→I T pre W2)
  (hN: ∀T pre W1 W2,I T pre W1→Ext W1 W2→I (fun k=>T k∨(W1.heap.size≤k∧k<W2.heap.size)) pre W2)
  (hS: ∀T pre W1 p u,I T pre W1→T p.block→I T pre (W1.setCell p u))
  (h0:I (fun _=>False) [] w)
  (hassign: ∀x W1 (K:Act→World→Prop),(∀Bx W2,Ext W1 W2→W2.heap[Bx]? =some (.cells (cs x) t (0,0))→W1.heap.size≤Bx→K {tmps:=(a.tmps.setIfInBounds psl (v x)).setIfInBounds bs (.pointer (some ⟨Bx,0,none⟩)),defers:=[]} W2)→
   assign.wpIn (Fence.wide.inRound (w.heap.size+1)) 3 P (Exit.then K (fun _ _ _=>False)) {tmps:=a.tmps.setIfInBounds psl (v x),defers:=[]} W1)
  (hbody: ∀T pre x Bx W1,I T pre W1→W1.heap[Bx]? =some (.cells (cs x) t (0,0))→w.heap.size+2≤Bx→w.heap.size+2≤W1.heap.size→pre++[x]<+:xs→body.wpIn (Fence.wide.inRound (w.heap.size+1)) 3 P
   (fun e _ W2=>e= .normal∧I T (pre++[x]) W2∧Touch (fun k=> ¬T k∧ ¬R k∧k≠w.heap.size∧k≠w.heap.size+1) W1 W2) {tmps:=(a.tmps.setIfInBounds psl (v x)).setIfInBounds bs (.pointer (some ⟨Bx,0,none⟩)),defers:=[]} W1)
  (hdone: ∀T W1,I T xs W1→W1.heap[w.heap.size]? =some (.deferred (some []))→Q .normal {a with defers:={target:= .collected w.heap.size,args:= #[]}::a.defers} W1):
  (Code.rangeFunc g #[psl] assign body).wpIn Fence.wide n P Q a w:=by
 refine aF5 hg eg hseq (fun _=>rfl) I (fun x a' W=> ∃Bx,w.heap.size+2≤Bx∧W.heap[Bx]? =some (.cells (cs x) t (0,0))∧a'={tmps:=(a.tmps.setIfInBounds psl (v x)).setIfInBounds bs (.pointer (some ⟨Bx,0,none⟩)),defers:=[]})
  hR hO hA hE hN hS ?_ h0 ?_ ?_ hdone
 ·rintro x a' W1 W2 ⟨Bx,h1,h2,h3⟩ tt
  exact⟨Bx,h1,(tt.block Bx (Array.getElem?_eq_some_iff.1 h2).1 (fun e=>by omega)).trans h2,h3⟩
 ·intro T pre x W1 K i z hK
  have e: ∀tm:Array Value,Array.foldl (fun(t:Array Value) (x:Nat×Value)=>t.setIfInBounds x.1 x.2) tm (#[psl].zip #[v x])=tm.setIfInBounds psl (v x):=fun tm=>by simp
  rw[e]
  exact hassign x W1 K fun Bx W2 e hb hx=>hK _ _ e ⟨Bx,by omega,hb,rfl⟩
 rintro T pre x a' W1 i ⟨Bx,h1,h2,rfl⟩ z hp
 exact hbody T pre x Bx W1 i h2 h1 z hp
end Go.Proofs.YtaellcgglldjaaaGreat

namespace Go.Proofs.YtaellcgglldjaaaGreat
open Go.RowKit
section
variable {F:Fence} {n:Nat} {P:Program} {ops:Array Oper} {Q:Exit→Act→World→Prop} {md:Region.Mode} {S:World→Prop}
def iZ (ops:Array Oper):Bool:=ops.all fun o=>match o.op with| .defer _=>false|_=>true
theorem tP (h:iZ ops=true) {i:Nat} {o:Oper} (hi:ops[i]? =some o) (c:Call):o.op≠ .defer c:=by
 unfold iZ at h
 rw[Array.all_eq_true]at h
 obtain⟨hlt,rfl⟩:=Array.getElem?_eq_some_iff.1 hi
 have:=h i hlt
 intro e
 rw[e]at this
 cases this
theorem sA (hF: ∀f,F.fn f) (hd:iZ ops=true) {i:Nat} {o:Oper} {v:Value} {a:Act} (hi:ops[i]? =some o) (hy:YieldsIf P ops S o v a)
  {K:Act→World→Prop} {w:World} (hS:S w) (h:K (a.put o.dst v) w):wpOpIn F n P ops Q i K a w:=by
 unfold wpOpIn
 simp only[hi]
 rcases hy with⟨hw,hv⟩|⟨hw,rfl⟩
 ·simp only[hw,if_true,Oper.wpIn,Oper.semAt_plain F _ _ (tP hd hi),hv w hS,Oper.uponIn];exact⟨fun f _=>hF f,h⟩
 simp only[hw,Bool.false_eq_true,if_false];exact⟨fun f _=>hF f,h⟩
theorem aB0 (hF: ∀f,F.fn f) (hd:iZ ops=true) {j:Nat} {oi oj:Oper} {v:Value} (hj:ops[j]? =some oj) (hap:oi.apart ops oj=true)
  (hsi: ∀cs b,oi.op≠ .select cs b) (hsj: ∀cs b,oj.op≠ .select cs b)
  (hQ: ∀c a w,Q (.panic c) (a.put oi.dst v) w→Q (.panic c) a w) {K:Act→World→Prop} {a:Act} {w:World}
  (hy:YieldsIf P ops S oi v a) (h:wpOpIn F n P ops Q j K (a.put oi.dst v) w):
  wpOpIn F n P ops Q j (fun a' w'=>YieldsIf P ops S oi v a'∧K (a'.put oi.dst v) w') a w:=by
 obtain⟨h1,h2,h3⟩:=Oper.apart_spec hap
 have hdj:=tP hd hj
 have keep: ∀(a:Act),YieldsIf P ops S oi v a→ ∀u,YieldsIf P ops S oi v (a.put oj.dst u):=fun a hy u=>
  hy.of_same (execOp_put oi hsi a oj.dst u h3) (wanted_put oi a oj.dst u h3)
 have keepD: ∀d,YieldsIf P ops S oi v {a with defers:=d::a.defers}:=fun d=>hy.of_same rfl rfl
 unfold wpOpIn at *
 simp only[hj]at *
 rw[wanted_put oj a oi.dst v h1]at h
 split
 ·rename_i hw
  simp only[hw,if_true]at h
  unfold Oper.wpIn at *
  refine⟨fun f _=>hF f,?_⟩
  have h:=h.2
  rw[Oper.semAt_plain F _ _ hdj,execOp_put oj hsj a oi.dst v h1]at h
  rw[Oper.semAt_plain F _ _ hdj]
  generalize (execOp a.eval oj).run P w=r at *
  cases r with
  |ok x w'=>
   cases x<;>simp only[Oper.uponIn]at h⊢
   case value u=>exact⟨keep a hy u,by rw[←Act.put_comm a v u h2];exact h⟩
   case skip=>exact⟨keep a hy _,by rw[←Act.put_comm a v undef h2];exact h⟩
   case defer d=>
    refine⟨keep _ (keepD d) _,?_⟩
    rw[←Act.put_comm _ v undef h2,←Act.put_defers]
    exact h
   case enter f args=>
    refine⟨h.1,CallsIn.mono h.2 fun e w'' he=> ?_⟩
    cases e with
    |returned u=>exact⟨keep a hy u,by rw[←Act.put_comm a v u h2];exact he⟩
    |panicked c=>exact hQ _ _ _ he
    |outgrown=>exact he
   case row row args=>exact⟨h.1,RowsIn.mono h.2 fun u w'' he=>⟨keep a hy u,by rw[←Act.put_comm a v u h2];exact he⟩⟩
   case round l f tmps assign body=>
    refine⟨h.1,RoundIn.mono h.2 fun e w'' he=> ?_⟩
    cases e with
    |returned u=>exact⟨keep a hy u,by rw[←Act.put_comm a v u h2];exact he⟩
    |panicked c=>exact hQ _ _ _ he
    |outgrown=>exact he
  |halt x w'=>
   cases x<;>simp only[Oper.uponIn]at h⊢
   case panic u=>exact hQ _ _ _ h
 rename_i hw
 simp only[hw]at h
 exact⟨fun f _=>hF f,keep a hy _,by rw[←Act.put_comm a v undef h2];exact h.2⟩
def jX (F:Fence) (n:Nat) (P:Program) (md:Region.Mode) (ops:Array Oper) (Q:Exit→Act→World→Prop) (S:World→Prop):Nat→Array Bool→Act→World→Prop
 |0,listed,a,w=>Region.ready md ops listed=[]∧Q .normal a w
 |fuel+1,listed,a,w=>
  (Region.ready md ops listed=[]→Q .normal a w)∧
  ∀i∈Region.ready md ops listed,wpOpIn F n P ops Q i (fun a' w'=>S w'∧jX F n P md ops Q S fuel (listed.setIfInBounds i true) a' w') a w
theorem mR: ∀(fuel:Nat) (listed:Array Bool) (a:Act) (w:World),jX F n P md ops Q S fuel listed a w→wpAnyIn F n P md ops Q fuel listed a w
 |0,_,_,_,h=>h
 |fuel+1,_,_,_,h=>⟨h.1,fun i hi=>wpOpIn_mono (fun a' w' h'=>mR fuel _ a' w' h'.2) (h.2 i hi)⟩
theorem aAz (hF: ∀f,F.fn f) (hd:iZ ops=true) {i:Nat} {oi:Oper} {v:Value} (hi:ops[i]? =some oi) (hsel: ∀(j:Nat) (o:Oper) cs b,ops[j]? =some o→o.op≠ .select cs b)
  (hQ: ∀c a w,Q (.panic c) (a.put oi.dst v) w→Q (.panic c) a w):
  ∀(fuel:Nat) (listed:Array Bool) (a:Act) (w:World),
   (∀j oj,ops[j]? =some oj→j≠i→listed.getD j true=false→(∀e∈oj.after,Region.binds md e=true→e.on≠i)→oi.apart ops oj=true)→
   i∈Region.ready md ops listed→YieldsIf P ops S oi v a→S w→
   jX F n P md ops Q S fuel (listed.setIfInBounds i true) (a.put oi.dst v) w→jX F n P md ops Q S (fuel+1) listed a w:=by
 intro fuel
 induction fuel with
 |zero=>
  intro listed a w _ hr hy hS H
  refine⟨fun h=>(by rw[h]at hr;cases hr),fun j hj=> ?_⟩
  by_cases hji:j=i
  ·subst hji;exact sA hF hd hi hy hS ⟨hS,H⟩
  have:=ready_mono hj hji
  rw[H.1]at this
  cases this
 |succ fuel ih=>
  intro listed a w hfree hr hy hS H
  refine⟨fun h=>(by rw[h]at hr;cases hr),fun j hj=> ?_⟩
  by_cases hji:j=i
  ·subst hji;exact sA hF hd hi hy hS ⟨hS,H⟩
  have h1:=H.2 j (ready_mono hj hji)
  obtain⟨hjun,oj,hoj,hall⟩:=mem_ready.1 hj
  have hnot: ∀e∈oj.after,Region.binds md e=true→e.on≠i:=fun e he hb heq=>by
   have h1:=hall e he hb
   have h0:=(mem_ready.1 hr).1
   rw[heq]at h1
   rcases Nat.lt_or_ge i listed.size with h'|h'
   ·simp[h']at h0 h1;rw[h0]at h1;cases h1
   simp[Array.getElem?_eq_none h']at h1
  have h2:=aB0 hF hd hoj (hfree j oj hoj hji hjun hnot) (fun cs b=>hsel i oi cs b hi) (fun cs b=>hsel j oj cs b hoj) hQ hy h1
  have hfree': ∀k ok,ops[k]? =some ok→k≠i→(listed.setIfInBounds j true).getD k true=false→
    (∀e∈ok.after,Region.binds md e=true→e.on≠i)→oi.apart ops ok=true:=fun k ok hk hki hun hno=>by
   refine hfree k ok hk hki ?_ hno
   by_cases hjk:j=k
   ·subst hjk;exact hjun
   rw[getD_set_ne true hjk]at hun;exact hun
  refine wpOpIn_mono (fun a' w' h3=>⟨h3.2.1,ih (listed.setIfInBounds j true) a' w' hfree' (ready_mono hr (Ne.symm hji)) h3.1 h3.2.1 ?_⟩) h2
  rw[Array.setIfInBounds_comm _ _ hji]
  exact h3.2.2
theorem aCb (hF: ∀f,F.fn f) (hd:iZ ops=true) {i:Nat} {oi:Oper} {v:Value} {fuel:Nat} {listed:Array Bool} {a:Act} {w:World} (hi:ops[i]? =some oi)
  (hs:Region.noSelect ops=true) (hf:Region.free md ops listed i=true) (hr:(Region.ready md ops listed).contains i=true)
  (hQ: ∀c a w,Q (.panic c) (a.put oi.dst v) w→Q (.panic c) a w) (hy:YieldsIf P ops S oi v a) (hS:S w)
  (h:jX F n P md ops Q S fuel (listed.setIfInBounds i true) (a.put oi.dst v) w):jX F n P md ops Q S (fuel+1) listed a w:=
 aAz hF hd hi (Region.noSelect_spec hs) hQ fuel listed a w (Region.free_spec hi hf) (by simpa using hr) hy hS h
theorem aCa {listed:Array Bool} {a:Act} {w:World} (hr:Region.ready md ops listed=[]) (h:Q .normal a w):
  ∀fuel,jX F n P md ops Q S fuel listed a w
 |0=>⟨hr,h⟩
 |_+1=>⟨fun _=>h,by rw[hr];simp⟩
theorem rE {id:Nat} {a:Act} {w:World} (hm:P.follows .mixedOrders=true)
  (h:jX F n P .any ops Q S ops.size (Array.replicate ops.size false) a w.drew):(Code.region id ops true).wpIn F n P Q a w:=
 wpIn_region_any hm (mR _ _ _ _ h)
def SeqN (F:Fence) (n:Nat) (P:Program) (ops:Array Oper) (Q:Exit→Act→World→Prop) (S:World→Prop):List (Nat×Bool)→Act→World→Prop
 |[],a,w=>Q .normal a w
 |(i,true)::r,a,w=> ∃oi v,ops[i]? =some oi∧YieldsIf P ops S oi v a∧SeqN F n P ops Q S r (a.put oi.dst v) w
 |(i,false)::r,a,w=> ∃oi,ops[i]? =some oi∧ ∀K':Act→World→Prop,Shut (∀a w,S w→(S w→SeqN F n P ops Q S r a w)→K' a w)→if Region.wanted oi (yielded ops a.tmps)=true then Oper.wpIn F n P oi a w K' Q else(∀f,oi.about P w a.eval=some f→F.fn f)∧K' (a.put oi.dst undef) w
theorem SeqN.free {i:Nat} {r:List (Nat×Bool)} {oi:Oper} {v:Value} {a:Act} {w:World} (hi:ops[i]? =some oi) (hy:YieldsIf P ops S oi v a) (h:SeqN F n P ops Q S r (a.put oi.dst v) w):SeqN F n P ops Q S ((i,true)::r) a w:=⟨oi,v,hi,hy,h⟩
theorem SeqN.fr2 {i:Nat} {r:List (Nat×Bool)} {oi:Oper} {v:Value} {a:Act} {w:World} (h:SeqN F n P ops Q S r (a.put oi.dst v) w) (hi:ops[i]? =some oi:=by simp only[z_0,z_1,z_2];rfl) (hy:YieldsIf P ops S oi v a:=by first|exact Or.inr ⟨by rfl,rfl⟩|(refine Or.inl ⟨by rfl,?_⟩;intro w hSw;(try dsimp only at hSw);simp only[CellsAt]at hSw;go_simp;try with_reducible rfl)):SeqN F n P ops Q S ((i,true)::r) a w:=SeqN.free hi hy h
theorem SeqN.step {i:Nat} {r:List (Nat×Bool)} {oi:Oper} {a:Act} {w:World} (hi:ops[i]? =some oi) (h: ∀K':Act→World→Prop,Shut (∀a w,S w→(S w→SeqN F n P ops Q S r a w)→K' a w)→if Region.wanted oi (yielded ops a.tmps)=true then Oper.wpIn F n P oi a w K' Q else(∀f,oi.about P w a.eval=some f→F.fn f)∧K' (a.put oi.dst undef) w):SeqN F n P ops Q S ((i,false)::r) a w:=⟨oi,hi,h⟩
theorem SeqN.done {a:Act} {w:World} (h:Q .normal a w):SeqN F n P ops Q S [] a w:=h
theorem SeqN.any (hF: ∀f,F.fn f) (hd:iZ ops=true) (hs:Region.noSelect ops=true) (hQ: ∀c a d v w,Q (.panic c) (a.put d v) w→Q (.panic c) a w): ∀(r:List (Nat×Bool)) (fuel:Nat) (listed:Array Bool) (a:Act) (w:World),eK md ops r listed=true→r.length≤fuel→S w→SeqN F n P ops Q S r a w→jX F n P md ops Q S fuel listed a w
 |[],fuel,listed,a,w,hk,_,_,h=>aCa (by unfold eK at hk;exact List.isEmpty_iff.1 hk) h fuel
 |(i,true)::r,0,_,_,_,_,hf,_,_=>absurd hf (by simp)
 |(i,false)::r,0,_,_,_,_,hf,_,_=>absurd hf (by simp)
 |(i,true)::r,fuel+1,listed,a,w,hk,hf,hS,h=>by
  unfold eK at hk
  simp only[Bool.and_eq_true]at hk
  obtain⟨oi,v,hi,hy,h⟩:=h
  exact aCb hF hd hi hs hk.1.2 hk.1.1 (fun c a w=>hQ c a _ _ w) hy hS (SeqN.any hF hd hs hQ r fuel _ _ w hk.2 (by simpa using hf) hS h)
 |(i,false)::r,fuel+1,listed,a,w,hk,hf,hS,h=>by
  unfold eK at hk
  simp only[Bool.and_eq_true,beq_iff_eq]at hk
  obtain⟨oi,hi,h⟩:=h
  refine⟨fun h0=>(by rw[hk.1]at h0;cases h0),fun j hj=> ?_⟩
  rw[hk.1]at hj
  obtain rfl:=List.mem_singleton.1 hj
  exact wpOpIn_step hi (fun K hK=>h K (fun a' w' hS' hseq=>hK a' w' ⟨hS',SeqN.any hF hd hs hQ r fuel _ a' w' hk.2 (by simpa using hf) hS' (hseq hS')⟩))
theorem uF {id:Nat} {a:Act} {w:World} (r:List (Nat×Bool)) (hF: ∀f,F.fn f) (hd:iZ ops=true) (hm:P.follows .mixedOrders=true) (hs:Region.noSelect ops=true) (hk:eK .any ops r (Array.replicate ops.size false)=true) (hl:(r.length≤ops.size:Prop))
  (hQ: ∀c a d v w,Q (.panic c) (a.put d v) w→Q (.panic c) a w) (hS:S w.drew) (h:S w.drew→SeqN F n P ops Q S r a w.drew):(Code.region id ops true).wpIn F n P Q a w:=
 rE hm (SeqN.any hF hd hs hQ r _ _ _ _ hk hl hS (h hS))
end
end Go.Proofs.YtaellcgglldjaaaGreat

