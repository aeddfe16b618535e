/- Part of a proof: HierL HierU. -/
import Derived.Test.YtaellcgglldjaaaGreatHierNodesQ37
import Derived.Shelf.Abstract
import Derived.Test.YtaellcgglldjaaaGreatHierNodesQ39
set_option linter.all false
set_option linter.unusedVariables false
set_option linter.unusedSimpArgs false
namespace Go.Proofs.YtaellcgglldjaaaGreat
open Go.RowKit
attribute [local go_sem] Oper.semAt_some
def sA (a:aB):Enc (aB×Int):=⟨5,fun q=>[.int .i64 a.1, .int .i64 a.2, .int .i64 q.1.1, .int .i64 q.1.2, .int .u64 q.2],fun _=>rfl,fun _ u hu=>by simp at hu;rcases hu with rfl|rfl|rfl|rfl|rfl<;>rfl⟩
theorem aKk (a:aB):bV Tryz.prog 49 56 (.agg #[.int .i64 0, .int .i64 0, .int .i64 0, .int .i64 0, .int .u64 0]) (sA a).size 40:=⟨Tryz.underlying49,by kernel_rfl,rfl,by show 0<5;decide⟩
theorem IterN.ext {α:Type} {P:Program} {gf:Nat} {lb:Array Value} {encs:α→Array Value} {xs:List α} {R:Nat→Prop} {w w':World} (h:IterN P gf lb encs xs R w) (x:Ext w w'):IterN P gf lb encs xs R w':=
 fun l J W hx=>h l J W (x.trans hx)
def aBy (w:World) (a:aB) (xs:List (aB×Int)) (e:Ending) (w':World):Prop:= ∃v,e= .returned v∧Ext w w'∧Own (sA a) w' w.heap.size 56 v xs
set_option maxRecDepth 100000 in
set_option maxHeartbeats 1000000 in
theorem aDo {w:World} {gf:Nat} {lb:Array Value} {a:aB} {xs:List (aB×Int)} {R:Nat→Prop} (eg: ∀args w,(callFunc gf args).run Tryz.prog w= .ok (.enter gf args) w) (hseq:IterN Tryz.prog gf lb (fun q:aB×Int=> #[bS a q.1 q.2]) xs R w) (hR: ∀k,R k→k<w.heap.size) (hl:xs.length≤100000):
  Calls Tryz.prog 98 #[.slice none 0 0, .func (.func gf) #[] lb] w (aBy w a xs):=by
 have HSQ:=aA hseq
 have HR:=aA hR
 have HL:=aA hl
 clear hseq hR hl
 refine callsIn_wide.1 (callsIn_of_wp_marks (n:=4) Tryz.func98 rfl trivial ((wpIn_wide (n:=4)).2 ?_))
 simp only[Tryz.ntmps98,List.size_toArray,List.length_cons,List.length_nil,Nat.reduceAdd,Nat.reduceSub,Array.replicate_succ,Array.replicate_zero,List.push_toArray,List.append_toArray,List.nil_append,List.cons_append]
 generalize hQ:bodyPostM _ _ _ _ _=Q'
 have HQ:=aA hQ
 clear hQ
 go_wp2_with fail
 obtain⟨w1,hw1⟩: ∃z,z=w.alloc (.cells #[.slice none 0 0] 49):=⟨_,rfl⟩
 have OB:=aA (show w1.heap[w.heap.size]? =some (.cells #[.slice none 0 0] 49 (0,0)) by rw[hw1];exact fV _ _)
 have X1:=aA (show Ext w w1 by rw[hw1];exact(Ext.refl _).alloc _)
 have z1:w1.heap.size=w.heap.size+1:=by rw[hw1];simp
 have Z1:=aA z1
 have hseq:=HSQ.out.ext X1.out
 have hRl: ∀k,R k→k<w1.heap.size:=fun k hk=>by have:=HR.out k hk;omega
 have OBo:=OB.out
 rw[←hw1]
 clear hw1
 refine(wpIn_wide (n:=4)).1 ?_
 refine oV (g:= .tmp 6) (psl:=7) (bs:=5) (v:=fun q:aB×Int=>bS a q.1 q.2) (cs:=fun q:aB×Int=> #[.int .i64 a.1, .int .i64 a.2, .int .i64 q.1.1, .int .i64 q.1.2, .int .u64 q.2]) (t:=56) (gf:=gf) ?hg eg hseq
  (fun T pre W1=>(∀k,T k→w1.heap.size≤k∧k<W1.heap.size)∧Ext w W1∧w1.heap.size≤W1.heap.size∧ ∃v,W1.heap[w.heap.size]? =some (.cells #[v] 49 (0,0))∧Own (sA a) W1 (w1.heap.size+2) 56 v pre∧ ∀k,v.ownBlock=some k→ ¬T k)
  hRl ?hO ?hA ?hE ?hN ?hS ⟨fun _ h=>h.elim,X1.out,Nat.le_refl _,_,OBo,Own.nil _ _ _ _,fun _ _ h=>h⟩ ?assign ?body ?done
 case hg=>rfl
 case hO=>
  rintro T pre W1 W2 ⟨i1,i2,i3,v,i4,i5,i6⟩ tt
  exact⟨fun k hk=>⟨(i1 k hk).1,Nat.lt_of_lt_of_le (i1 k hk).2 tt.size⟩,((Touch.of_ext (S:=fun _=>False) i2).after tt (fun k hk h=>by omega)).ext,Nat.le_trans i3 tt.size,v,(tt.block _ (by omega) (fun h=>by omega)).trans i4,Own.touch i5 tt (fun k hk h=>by have:=aG i5 hk;omega),i6⟩
 case hA=>
  rintro T pre W1 o ⟨i1,i2,i3,v,i4,i5,i6⟩
  exact⟨fun k hk=>hk.elim (fun h=>⟨(i1 k h).1,by have:=(i1 k h).2;simp;omega⟩) (fun e=>⟨by omega,by simp;omega⟩),i2.alloc _,by simp;omega,v,(((Ext.refl W1).alloc o).block (by omega)).trans i4,i5.alloc _,fun k hk h=>h.elim (i6 k hk) (fun e=>by have:=aG i5 hk;omega)⟩
 case hE=>
  rintro T pre W1 W2 ⟨i1,i2,i3,v,i4,i5,i6⟩ e
  exact⟨fun k hk=>⟨(i1 k hk).1,Nat.lt_of_lt_of_le (i1 k hk).2 e.size⟩,i2.trans e,Nat.le_trans i3 e.size,v,(e.block (by omega)).trans i4,i5.ext e,i6⟩
 case hN=>
  rintro T pre W1 W2 ⟨i1,i2,i3,v,i4,i5,i6⟩ e
  have ez:=e.size
  exact⟨fun k hk=>hk.elim (fun h=>⟨(i1 k h).1,Nat.lt_of_lt_of_le (i1 k h).2 ez⟩) (fun h=>⟨by omega,h.2⟩),i2.trans e,Nat.le_trans i3 ez,v,(e.block (by omega)).trans i4,i5.ext e,fun k hk h=>h.elim (i6 k hk) (fun h=>by have:=aG i5 hk;omega)⟩
 case hS=>
  rintro T pre W1 q u ⟨i1,i2,i3,v,i4,i5,i6⟩ hq
  have tt:Touch (fun k=>k=q.block) W1 (W1.setCell q u):=(Touch.refl (fun k=>k=q.block) W1).setCell (.inl rfl) u
  have hqb:=(i1 _ hq).1
  exact⟨fun k hk=>⟨(i1 k hk).1,Nat.lt_of_lt_of_le (i1 k hk).2 tt.size⟩,i2.setCell (by omega) _,Nat.le_trans i3 tt.size,v,(tt.block _ (by omega) (fun h=>by omega)).trans i4,Own.touch i5 tt (fun k hk h=>i6 k hk (by rw[h];exact hq)),i6⟩
 case assign=>
  intro q W1 K hK
  clear z1
  unfold bS at hK⊢
  simp only[List.setIfInBounds_toArray,List.set_cons_zero,List.set_cons_succ]at hK⊢
  gi_wp2
  exact hK W1.heap.size _ z_x (fV _ _) (Nat.le_refl _)
 case body=>
  rintro T pre q Bx W1 ⟨i1,i2,i3,v,i4,i5,i6⟩ hb hz hz2 hpre
  unfold bS
  simp only[List.setIfInBounds_toArray,List.set_cons_zero,List.set_cons_succ]
  have q0:W1.cell? ⟨Bx,0,none⟩=some (.int .i64 a.1):=by simp[World.cell?,hb]
  have q1:W1.cell? ⟨Bx,1,none⟩=some (.int .i64 a.2):=by simp[World.cell?,hb]
  have q2:W1.cell? ⟨Bx,2,none⟩=some (.int .i64 q.1.1):=by simp[World.cell?,hb]
  have q3:W1.cell? ⟨Bx,3,none⟩=some (.int .i64 q.1.2):=by simp[World.cell?,hb]
  have q4:W1.cell? ⟨Bx,4,none⟩=some (.int .u64 q.2):=by simp[World.cell?,hb]
  have o0:W1.cell? ⟨w.heap.size,0,none⟩=some v:=by simp[World.cell?,i4]
  have zob:w.heap.size<W1.heap.size:=by omega
  have zBx:Bx<W1.heap.size:=(Array.getElem?_eq_some_iff.1 hb).1
  have hlen:pre.length+1≤100000:=by
   obtain⟨rr,hrr⟩:=hpre
   have h9:=congrArg List.length hrr
   have:=HL.out
   simp at h9
   omega
  have I5:=aA i5
  have I4:=aA i4
  have hbase:w1.heap.size+2≤W1.heap.size:=hz2
  clear hb z1 i4
  gi_wp2_with (gi_at_builtin;refine iW (sA a) (aKk a) rfl _ _ rfl (w1.heap.size+2) _ _ pre rfl I5.out q _ _ rfl _ rfl rfl (by omega) (by omega) hbase ?_;intro g' cap' w10 hown' ht10 hloc;have hob:w10.heap[w.heap.size]? =some (.cells #[v] 49 (0,0)):=(ht10.block _ zob (fun e=>by have:=aG I5.out e;have:=Z1.out;omega)).trans I4.out;have hoc:w10.cell? ⟨w.heap.size,0,none⟩=some v:=(by simp[World.cell?,hob]);have hof:w10.frozen? ⟨w.heap.size,0,none⟩=false:=(by simp[World.frozen?,hob]);have HOB:=aA hob;have HO':=aA hown';have HT':=aA ht10;have HLO:=aA hloc;clear hown' ht10 hloc hob)
  have z1:=Z1.out
  have ht10:=HT'.out
  have hzg:=ht10.size
  have ho':w1.heap.size+2≤g'∧g'<w10.heap.size:=aG HO'.out rfl
  have tt:Touch (fun k=> ¬T k∧ ¬R k∧k≠w1.heap.size∧k≠w1.heap.size+1) W1 (w10.setCell ⟨w.heap.size,0,none⟩ (.slice (some ⟨g',0,none⟩) (pre.length+1) cap')):=by
   refine(ht10.mono (fun k _ hk=>⟨i6 k hk,fun e=> ?_,fun e=> ?_,fun e=> ?_⟩)).setCell (p:=⟨w.heap.size,0,none⟩) (.inl ⟨fun hT=> ?_,fun e=> ?_,?_,?_⟩) _
   ·have:=(aG I5.out hk).1;have:=hRl k e;omega
   ·have:=(aG I5.out hk).1;omega
   ·have:=(aG I5.out hk).1;omega
   ·have:=(i1 _ hT).1;have e2:w1.heap.size≤w.heap.size:=this;omega
   ·have:=HR.out _ e;have e2:w.heap.size<w.heap.size:=this;omega
   ·show w.heap.size≠_;omega
   ·show w.heap.size≠_;omega
  have tts:=tt.size
  have ts:Touch (fun k=>k=w.heap.size) w10 (w10.setCell ⟨w.heap.size,0,none⟩ (.slice (some ⟨g',0,none⟩) (pre.length+1) cap')):=(Touch.refl (fun k=>k=w.heap.size) w10).setCell (p:=⟨w.heap.size,0,none⟩) (.inl rfl) _
  refine⟨⟨fun k hk=>⟨(i1 k hk).1,Nat.lt_of_lt_of_le (i1 k hk).2 hzg⟩,?_,by omega,_,?_,Own.touch HO'.out ts (fun k hk e=> ?_),fun k hk hT=> ?_⟩,?_⟩
  ·refine(((Touch.of_ext (S:=fun _=>False) i2).after ht10 (fun k hk h=> ?_)).after ts (fun k hk h=> ?_)).ext
   ·have:=(aG I5.out h).1;omega
   ·have e2:k=w.heap.size:=h;omega
  ·have hbk:Blk w10 w.heap.size 49 #[v]:=HOB.out
   have:=hbk.set_ 0 (.slice (some ⟨g',0,none⟩) (pre.length+1) cap')
   unfold Blk at this
   simpa using this
  ·simp only[Value.ownBlock,Option.some.injEq]at hk
   subst hk
   have e2:g'=w.heap.size:=e
   omega
  ·simp only[Value.ownBlock,Option.some.injEq]at hk
   subst hk
   rcases HLO.out with h|h
   ·exact i6 _ h hT
   ·have:=(i1 _ hT).2;omega
  ·refine tt.mono fun k _ h=> ?_
   simpa using h
 case done=>
  rintro T W1 ⟨i1,i2,i3,v,i4,i5,i6⟩ hD
  dsimp only
  obtain⟨va,vc,rfl⟩:=i5.slice
  have o0:W1.cell? ⟨w.heap.size,0,none⟩=some (.slice va xs.length vc):=by simp[World.cell?,i4]
  have I5:=aA i5
  have ID:=aA hD
  have I2:=aA i2
  have zob:w.heap.size<W1.heap.size:=by omega
  clear i5 hD i2 i4 i1 i6 z1
  go_wp2_with fail
  rw[←HQ.out]
  refine⟨by simp, .inl ⟨_,_,rfl,run_takeDeferred ID.out,?_⟩⟩
  refine⟨.slice va xs.length vc,by simp[results,Tryz.results98,go_sem],?_⟩
  have t6:Touch (fun j=>j=w1.heap.size) W1 (W1.putObj w1.heap.size (.deferred none)):=cI _ _
  exact⟨_,rfl,((Touch.of_ext (S:=fun _=>False) I2.out).after t6 (fun k hk e=>by have:=Z1.out;omega)).ext,(Own.touch I5.out t6 (fun k hk e=>by have:=aG I5.out hk;omega)).lower (by have:=Z1.out;omega)⟩
theorem aBp {w:World} {gf:Nat} {lb:Array Value} {a:aB} {xs:List (aB×Int)} {R:Nat→Prop} (eg: ∀args w,(callFunc gf args).run Tryz.prog w= .ok (.enter gf args) w) (hseq:IterN Tryz.prog gf lb (fun q:aB×Int=> #[bS a q.1 q.2]) xs R w) (hR: ∀k,R k→k<w.heap.size) (hl:xs.length≤100000):
  Calls Tryz.prog 52 #[.func (.func gf) #[] lb] w (aBy w a xs):=by
 have H:=aA (aDo eg hseq hR hl)
 clear hseq hR eg
 go_enter Tryz.func52,Tryz.ntmps52
 go_wp2_with fail
 refine(H.out).mono ?_
 rintro e w1 ⟨v,rfl,x1,o1⟩
 have O1:=aA o1
 have X1:=aA x1
 obtain⟨va,vc,rfl⟩:=o1.slice
 clear o1 x1
 go_wp2_with fail
 go_ret
 exact⟨_,rfl,X1.out,O1.out⟩
section
variable {w:World} {p:Spot} {R:Nat→Prop} {W H s:Int} {l:List Int}
def aLr (w:World) (W H s:Int) (l:List Int) (f t:aB) (e:Ending) (w':World):Prop:=
 (¬(inB W H f.1 f.2=true∧inB W H t.1 t.2=true)∧e= .returned (.tuple #[.slice none 0 0, .int .i64 10])∧Ext w w')∨
 ((inB W H f.1 f.2=true∧inB W H t.1 t.2=true)∧ ∃v,e= .returned (.tuple #[v, .int .i64 0])∧Ext w w'∧Own cellE w' w.heap.size 28 v (aX W H (aD W H s l) f t))
theorem tH {α:Type} (E:Enc α) (w:World):Reads E w (.slice none 0 0) []:= .inl ⟨rfl,rfl⟩
set_option maxRecDepth 100000 in
theorem qI (h:WorldAt w p R W H s l) (hgl:(aD W H s l).length≤45000) (f t:aB):
  Calls Tryz.prog 22 #[.pointer (some ⟨p.b,0,none⟩), .agg #[.int .i64 f.1, .int .i64 f.2], .agg #[.int .i64 t.1, .int .i64 t.2]] w (aLr w W H s l f t):=by
 have HLK:=aA (fun(w':World) (x:Ext w w')=>rQ (h.ext x) f t [] none 0 (tH _ _) (by simp))
 obtain⟨pb,hpb⟩: ∃z,p.b=z:=⟨_,rfl⟩
 rw[hpb]at HLK⊢
 obtain⟨fx,fy⟩:=f
 obtain⟨tx,ty⟩:=t
 simp only[List.length_nil]at HLK
 clear h hpb
 simp only
 go_enter Tryz.func22,Tryz.ntmps22
 go_wp2_with fail
 refine(HLK.out _ (((Ext.refl _).alloc _).alloc _)).mono ?_
 rintro e w1 (⟨h1,rfl,x1⟩|⟨h1,lb,fa,fc,ga,gc,rfl,x1,L⟩)
 ·have X1:=aA ((((Ext.refl w).alloc _).alloc _).trans x1)
  have H1:=aA h1
  clear x1 h1
  go_wp2_with fail
  refine bodyPost_ret (v:= .tuple #[.slice none 0 0, .int .i64 10]) (by simp[results,Tryz.results22,go_sem, *]) rfl ?_
  refine .inl ⟨fun hh=> ?_,rfl,X1.out⟩
  have:=H1.out
  simp[hh.1,hh.2]at this
 ·have X1:=aA ((((Ext.refl w).alloc _).alloc _).trans x1)
  have H1:=aA h1
  have HN:=aA (sK L hgl)
  have zw:=X1.out.size
  clear x1 h1 L
  go_wp2_with fail
  refine(HN.out).mono ?_
  rintro e w2 ⟨v,rfl,x2,o2⟩
  have X2:=aA (X1.out.trans x2)
  have O2:=aA (o2.lower (base':=w.heap.size) zw)
  obtain⟨va,vc,rfl⟩:=o2.slice
  clear x2 o2
  go_wp2_with fail
  refine bodyPost_ret (v:= .tuple #[.slice va (aX W H (aD W H s l) (fx,fy) (tx,ty)).length vc, .int .i64 0]) (by simp[results,Tryz.results22,go_sem, *]) rfl ?_
  have:=H1.out
  simp at this
  exact .inr ⟨⟨by simp[this],by simp[this]⟩,_,rfl,X2.out,O2.out⟩
end
end Go.Proofs.YtaellcgglldjaaaGreat

namespace Go.Proofs.YtaellcgglldjaaaGreat
open Go.RowKit
def noneH:AS:={st:=fun _=>0,g:=fun _=>0,came:=fun _=>0,cnt:=0}
theorem aDs (s:Nat):noneH.put s 0 (-1)=bA s:=by
 unfold noneH AS.put bA
 congr 1
 funext v
 unfold jU
 split<;>rfl
theorem aJ4 {w0 w3 w4:World} {lb h mg mc sb n:Nat} {W:Int} (hh:HeapIs (fun k=>w0.heap.size≤k) w3 h []) (hz:w0.heap.size≤w3.heap.size) (hmg:mg=w3.heap.size) (hmc:mc=w3.heap.size+1) (hsb:sb=w3.heap.size+2)
  (hw:w4=((w3.alloc (.map #[] 0)).alloc (.map #[] 0)).alloc (.cells #[.pointer (some ⟨lb,0,none⟩), .pointer (some ⟨h,0,none⟩), .map (some mg), .map (some mc)] 108)):
  HMem w4 sb lb h mg mc W n (fun j=>w0.heap.size≤j∧j≠sb∧j≠mg∧j≠mc) noneH:=by
 have hz4:w4.heap.size=w3.heap.size+3:=by rw[hw];simp
 have hx:Ext w3 w4:=by rw[hw];exact((((Ext.refl _).alloc _).alloc _).alloc _)
 exact {
  sea:=by rw[hw,hsb];exact Blk.new_ (by simp)
  gm:=⟨0,Nat.zero_le _,by
   have h1:MapIn Tryz.prog KU (w3.alloc (.map #[] 0)) w3.heap.size (fun _=>none) 0:=MapIn.made w3
   rw[hw,hmg]
   exact(h1.ext (((Ext.refl _).alloc _).alloc _)).congr (fun z=>by unfold gF noneH;simp)⟩
  cm:=⟨0,fun _=>none,Nat.zero_le _,by
   have h1:=MapL.made (w3.alloc (.map #[] 0))
   have e:(w3.alloc (.map #[] 0)).heap.size=w3.heap.size+1:=by simp
   rw[e]at h1
   rw[hw,hmc]
   exact h1.ext ((Ext.refl _).alloc _),⟨fun _ _=>rfl,fun v hv=>absurd rfl hv⟩⟩
  heap:=⟨[],(hh.mono (S':=fun j=>w0.heap.size≤j∧j≠sb∧j≠mg∧j≠mc) (fun k hk hS=>⟨hS,by omega,by omega,by omega⟩)).ext hx,⟨by simp[ids],(fun t ht=>by cases ht),(fun v hv=>by unfold noneH at hv;cases hv)⟩⟩
  ns:=⟨fun y=>y.2.1 rfl,fun y=>y.2.2.1 rfl,fun y=>y.2.2.2 rfl,by omega,by omega,by omega⟩
  nw:=fun j hj=>⟨by omega,by omega,by omega,by omega⟩}
def aLj (W H s:Int) (l:List Int) (f t:aB) (b:Int) (base:Nat) (e:Ending) (w':World):Prop:=
 ∃(p:List aB) (c k er:Int) (v:Value),HSrch W H s l f t b p c k er∧e= .returned (.tuple #[.agg #[v, .int .u64 c, .int .i64 k], .int .i64 er])∧Own cellE w' base 28 v p
theorem aEb (s:Nat):nX (bA s):=fun u v hu _=>by
 unfold bA bX at hu
 simp only at hu
 split at hu<;>omega
set_option maxRecDepth 100000 in
set_option maxHeartbeats 2000000 in
theorem aEh {w:World} {p:Spot} {R:Nat→Prop} {W H s:Int} {l:List Int} (h:WorldAt w p R W H s l) (g:Good W H s l) (hl:l.length≤150) (hgl:(aD W H s l).length≤45000) (f t:aB) (b:Int):
  Calls Tryz.prog 12 #[.pointer (some ⟨p.b,0,none⟩), .agg #[.int .i64 f.1, .int .i64 f.2], .agg #[.int .i64 t.1, .int .i64 t.2], .int .i64 b] w fun e w'=>Ext w w'∧aLj W H s l f t b w.heap.size e w':=by
 have HLK:=aA (fun(w':World) (x:Ext w w')=>rQ (h.ext x) f t [] none 0 (tH _ _) (by simp))
 obtain⟨pb,hpb⟩: ∃z,p.b=z:=⟨_,rfl⟩
 rw[hpb]at HLK⊢
 obtain⟨fx,fy⟩:=f
 obtain⟨tx,ty⟩:=t
 simp only[List.length_nil]at HLK
 clear h hpb
 simp only
 go_enter Tryz.func12,Tryz.ntmps12
 go_upto_region 1 with(fail)
 obtain⟨w1,hw1⟩: ∃z,z=((w.alloc (.cells #[.int .i64 fx, .int .i64 fy] 28)).alloc (.cells #[.int .i64 tx, .int .i64 ty] 28)).alloc (.cells #[.slice none 0 0, .int .u64 0, .int .i64 0] 40):=⟨_,rfl⟩
 have X1:=aA (show Ext w w1 by rw[hw1];exact(((Ext.refl _).alloc _).alloc _).alloc _)
 have F1:=aA (show Blk w1 w.heap.size 28 #[.int .i64 fx, .int .i64 fy] by rw[hw1];exact(Blk.new_ rfl).over.over)
 have T1:=aA (show Blk w1 (w.heap.size+1) 28 #[.int .i64 tx, .int .i64 ty] by rw[hw1];exact(Blk.new_ (by simp)).over)
 have R1:=aA (show Blk w1 (w.heap.size+1+1) 40 #[.slice none 0 0, .int .u64 0, .int .i64 0] by rw[hw1];exact Blk.new_ (by simp))
 rw[←hw1]
 obtain⟨fb,hfb⟩: ∃z,w.heap.size=z:=⟨_,rfl⟩
 have HFB:=aA hfb
 have HZ1:=aA (show w1.heap.size=fb+3 by rw[hw1,←hfb];simp)
 rw[hfb]at F1 T1 R1⊢
 clear hw1 hfb
 have f0:=F1.out.at 0 rfl;have f1:=F1.out.at 1 rfl;have fz:=F1.out.lt
 have t0:=T1.out.at 0 rfl;have t1:=T1.out.at 1 rfl;have tz:=T1.out.lt
 go_wp2_with fail
 refine(HLK.out _ X1.out).mono ?_
 rintro e w2 (⟨h1,rfl,x2⟩|⟨h1,lb,fa,fc,ga,gc,rfl,x2,L⟩)
 ·have X2:=aA (X1.out.trans x2)
  have R2:=aA (R1.out.ext x2)
  have H1:=aA h1
  clear x2 h1 f0 f1 fz t0 t1 tz
  have r0:=R2.out.at 0 rfl;have r1:=R2.out.at 1 rfl;have r2:=R2.out.at 2 rfl;have rz:=R2.out.lt
  have g0:=R2.out.frozen 0
  have g1:=R2.out.frozen 1
  have g2:=R2.out.frozen 2
  go_wp2_with fail
  refine bodyPost_ret (v:= .tuple #[.agg #[.slice none 0 0, .int .u64 0, .int .i64 0], .int .i64 10]) (by simp[results,Tryz.results12,go_sem, *]) rfl ?_
  refine⟨((X2.out.setCell (p:=⟨fb+1+1,0,none⟩) (by have:=HFB.out;simp;omega) _).setCell (p:=⟨fb+1+1,1,none⟩) (by have:=HFB.out;simp;omega) _).setCell (p:=⟨fb+1+1,2,none⟩) (by have:=HFB.out;simp;omega) _,[],0,0,10,_, .inl ⟨fun hh=> ?_,rfl,rfl,rfl,rfl⟩,rfl,Own.nil _ _ _ _⟩
  have:=H1.out
  simp[hh.1,hh.2]at this
 ·have X2:=aA (X1.out.trans x2)
  have R2:=aA (R1.out.ext x2)
  have F2:=aA (F1.out.ext x2)
  have T2:=aA (T1.out.ext x2)
  have HIN:=aA (show inB W H fx fy=true∧inB W H tx ty=true by simpa using h1)
  have HL:=aA L
  have z2:=x2.size
  have HZ2:=aA z2
  clear x2 h1 L f0 f1 fz t0 t1 tz F1 T1 R1 z2
  have r0:=R2.out.at 0 rfl;have r1:=R2.out.at 1 rfl;have r2:=R2.out.at 2 rfl;have rz:=R2.out.lt
  have f0:=F2.out.at 0 rfl;have f1:=F2.out.at 1 rfl;have fz:=F2.out.lt
  have t0:=T2.out.at 0 rfl;have t1:=T2.out.at 1 rfl;have tz:=T2.out.lt
  have g0:=R2.out.frozen 0
  have g1:=R2.out.frozen 1
  have g2:=R2.out.frozen 2
  by_cases hb:b<0
  ·have hd:decide (b<0)=true:=decide_eq_true hb
   have HB:=aA hb
   clear hb
   go_wp2_with fail
   refine bodyPost_ret (v:= .tuple #[.agg #[.slice none 0 0, .int .u64 0, .int .i64 0], .int .i64 1]) (by simp[results,Tryz.results12,go_sem, *]) rfl ?_
   exact⟨((X2.out.setCell (p:=⟨fb+1+1,0,none⟩) (by have:=HFB.out;simp;omega) _).setCell (p:=⟨fb+1+1,1,none⟩) (by have:=HFB.out;simp;omega) _).setCell (p:=⟨fb+1+1,2,none⟩) (by have:=HFB.out;simp;omega) _,[],0,0,1,_, .inr (.inl ⟨HIN.out,HB.out,rfl,rfl,rfl,rfl⟩),rfl,Own.nil _ _ _ _⟩
  ·have hd:decide (b<0)=false:=decide_eq_false hb
   have HB:=aA hb
   have HC1:=aA (fun(w':World) (x:Ext w2 w')=>oH (HL.out.ext x) (c:=(fx,fy)) HIN.out.1)
   have HC2:=aA (fun(w':World) (x:Ext w2 w')=>oH (HL.out.ext x) (c:=(tx,ty)) HIN.out.2)
   obtain⟨c1,hc1⟩: ∃z,aO l W (fx,fy)=z:=⟨_,rfl⟩
   obtain⟨c2,hc2⟩: ∃z,aO l W (tx,ty)=z:=⟨_,rfl⟩
   have HCC:=aA (And.intro hc1 hc2)
   rw[hc1]at HC1
   rw[hc2]at HC2
   simp only at HC1 HC2
   clear hb hc1 hc2
   by_cases hz1:c1=0
   ·subst hz1
    clear HC2
    go_wp2_with fail
    refine(HC1.out _ (Ext.refl _)).mono ?_
    rintro e w5 ⟨rfl,x5⟩
    have X5:=aA (X2.out.trans x5)
    have R5:=aA (R2.out.ext x5)
    clear x5 r0 r1 r2 rz f0 f1 fz t0 t1 tz g0 g1 g2
    have r0:=R5.out.at 0 rfl;have r1:=R5.out.at 1 rfl;have r2:=R5.out.at 2 rfl;have rz:=R5.out.lt
    have g0:=R5.out.frozen 0
    have g1:=R5.out.frozen 1
    have g2:=R5.out.frozen 2
    go_wp2_with fail
    refine bodyPost_ret (v:= .tuple #[.agg #[.slice none 0 0, .int .u64 0, .int .i64 0], .int .i64 22]) (by simp[results,Tryz.results12,go_sem, *]) rfl ?_
    exact⟨((X5.out.setCell (p:=⟨fb+1+1,0,none⟩) (by have:=HFB.out;simp;omega) _).setCell (p:=⟨fb+1+1,1,none⟩) (by have:=HFB.out;simp;omega) _).setCell (p:=⟨fb+1+1,2,none⟩) (by have:=HFB.out;simp;omega) _,[],0,0,22,_, .inr (.inr (.inl ⟨HIN.out,by have:=HB.out;omega, .inl HCC.out.1,rfl,rfl,rfl,rfl⟩)),rfl,Own.nil _ _ _ _⟩
   ·have hq1:(c1==0)=false:=by simpa using hz1
    have HZ1c:=aA hz1
    clear hz1
    go_wp2_with fail
    refine(HC1.out _ (Ext.refl _)).mono ?_
    rintro e w4 ⟨rfl,x4⟩
    have X4:=aA x4
    have R4:=aA (R2.out.ext x4)
    have F4:=aA (F2.out.ext x4)
    have T4:=aA (T2.out.ext x4)
    clear x4 r0 r1 r2 rz f0 f1 fz t0 t1 tz g0 g1 g2
    have t0:=T4.out.at 0 rfl;have t1:=T4.out.at 1 rfl;have tz:=T4.out.lt
    by_cases hz2:c2=0
    ·subst hz2
     go_wp2_with fail
     refine(HC2.out _ X4.out).mono ?_
     rintro e w5 ⟨rfl,x5⟩
     have X5:=aA (X2.out.trans (X4.out.trans x5))
     have R5:=aA (R4.out.ext x5)
     clear x5 t0 t1 tz
     have r0:=R5.out.at 0 rfl;have r1:=R5.out.at 1 rfl;have r2:=R5.out.at 2 rfl;have rz:=R5.out.lt
     have g0:=R5.out.frozen 0
     have g1:=R5.out.frozen 1
     have g2:=R5.out.frozen 2
     go_wp2_with fail
     refine bodyPost_ret (v:= .tuple #[.agg #[.slice none 0 0, .int .u64 0, .int .i64 0], .int .i64 22]) (by simp[results,Tryz.results12,go_sem, *]) rfl ?_
     exact⟨((X5.out.setCell (p:=⟨fb+1+1,0,none⟩) (by have:=HFB.out;simp;omega) _).setCell (p:=⟨fb+1+1,1,none⟩) (by have:=HFB.out;simp;omega) _).setCell (p:=⟨fb+1+1,2,none⟩) (by have:=HFB.out;simp;omega) _,[],0,0,22,_, .inr (.inr (.inl ⟨HIN.out,by have:=HB.out;omega, .inr HCC.out.2,rfl,rfl,rfl,rfl⟩)),rfl,Own.nil _ _ _ _⟩
    ·have hq2:(c2==0)=false:=by simpa using hz2
     have HZ2c:=aA hz2
     clear hz2
     go_wp2_with fail
     refine(HC2.out _ X4.out).mono ?_
     rintro e w5 ⟨rfl,x5⟩
     have X25:=aA (X4.out.trans x5)
     have R5:=aA (R4.out.ext x5)
     have F5:=aA (F4.out.ext x5)
     clear x5 t0 t1 tz F4 T4 R4 X4 HC1 HC2
     have hmm:= @run_makeMap Tryz.prog
     have HLN:=aA (jN (c:=(fx,fy)) (checkE_ok.1 g.ok).2 HIN.out.1)
     have hfn:(fx,fy)∈aX W H (aD W H s l) (fx,fy) (tx,ty):=by
      have:=inB_true.1 HIN.out.1
      exact nodesL_mem.2 ⟨by simp only;omega, .inl rfl⟩
     have HI0:=aA (aEc (G:=hGr g hl (fx,fy) (tx,ty)) (s:=aC W (fx,fy)) ((nB g).2 ⟨_,hfn,rfl⟩))
     clear hfn
     go_wp2_with fail
     refine(rH _).mono ?_
     rintro e w6 ⟨hp,rfl,hh1,x6,hi⟩
     have X26:=aA (X25.out.trans x6)
     have z56:=X25.out.size
     have HI:=aA (hi.mono (S':=fun k=>w2.heap.size≤k) (fun k _ h=>by omega))
     have F6:=aA (F5.out.ext x6)
     have R6:=aA (R5.out.ext x6)
     clear hi x6 hh1 z56 X25 F5 R5
     have f0:=F6.out.at 0 rfl;have f1:=F6.out.at 1 rfl;have fz:=F6.out.lt
     go_upto_region 9 with(fail)
     obtain⟨w7,hw7⟩: ∃z,z=((w6.alloc (.map #[] 0)).alloc (.map #[] 0)).alloc (.cells #[.pointer (some ⟨lb,0,none⟩), .pointer (some ⟨hp,0,none⟩), .map (some w6.heap.size), .map (some (w6.heap.size+1))] 108):=⟨_,rfl⟩
     have X67:=aA (show Ext w6 w7 by rw[hw7];exact((((Ext.refl _).alloc _).alloc _).alloc _))
     have HM7:=aA (aJ4 (W:=W) (n:=l.length) (sb:=w6.heap.size+1+1) (mg:=w6.heap.size) (mc:=w6.heap.size+1) HI.out X26.out.size rfl rfl rfl hw7)
     have X27:=aA (X26.out.trans X67.out)
     have F7:=aA (F6.out.ext X67.out)
     have R7:=aA (R6.out.ext X67.out)
     rw[←hw7]
     clear hw7 f0 f1 fz F6 R6 hmm
     obtain⟨sb,hsb⟩: ∃z,w6.heap.size+1+1=z:=⟨_,rfl⟩
     obtain⟨mg,hmg⟩: ∃z,w6.heap.size=z:=⟨_,rfl⟩
     have HNUM:=aA (show sb=mg+2∧w2.heap.size≤mg∧w6.heap.size=mg by have:=X26.out.size;omega)
     rw[hsb,hmg]at HM7
     rw[hsb]
     clear hsb hmg
     have HRE:=aA (qV HL.out X27.out HM7.out (aC W (fx,fy)) HLN.out (0,0) 0 0 (-1) (by omega) (fun u hu=>by omega) (fun u hu=>absurd rfl hu) (by unfold noneH;simp) (fun h2=>by unfold noneH at h2;cases h2))
     rw[cS (c:=(fx,fy)) HIN.out.1,if_pos (show noneH.takes (aC W (fx,fy)) 0 from .inl rfl),aDs]at HRE
     unfold bS at HRE
     simp only at HRE
     have f0:=F7.out.at 0 rfl;have f1:=F7.out.at 1 rfl;have fz:=F7.out.lt
     go_wp2_with fail
     refine HRE.out.mono ?_
     rintro e w8 ⟨rfl,m8,t8⟩
     have M8:=aA m8
     have T8:=aA t8
     have X28:Hid (Ext w2 w8):=aA ((Touch.of_ext (S:=fun _=>False) X27.out).after t8 (fun k hk h=>by
      have:=HNUM.out
      rcases h with h|h|h
      ·have:=h.1;omega
      ·omega
      ·omega)).ext
     have R8:=aA (R7.out.touch t8 (fun h=>by
      have h1:=R2.out.lt
      have:=HNUM.out
      rcases h with h|h|h
      ·have:=h.1;omega
      ·omega
      ·omega))
     have HRU:=aA (aFk HL.out hl g hgl X28.out (fun j h=>h.1) (by have:=HNUM.out;omega) M8.out HI0.out (aEb _) rfl b)
     clear m8 t8 f0 f1 fz HRE
     go_wp2_with fail
     refine HRU.out.mono ?_
     rintro e w9 ⟨⟨pp,cc,kk,er,v,hrun,rfl,ho⟩,t9⟩
     have HRUN:=aA hrun
     have X29:Hid (Ext w2 w9):=aA ((Touch.of_ext (S:=fun _=>False) X28.out).after t9 (fun k hk h=>by
      have:=HNUM.out
      rcases h with h|h|h
      ·have:=h.1;omega
      ·omega
      ·omega)).ext
     have R9:=aA (R8.out.touch t9 (fun h=>by
      have h1:=R2.out.lt
      have:=HNUM.out
      rcases h with h|h|h
      ·have:=h.1;omega
      ·omega
      ·omega))
     have z8:=X28.out.size
     have HO:=aA (ho.lower (base':=w2.heap.size) (by omega))
     obtain⟨va,vc,rfl⟩:=ho.slice
     clear hrun ho t9 z8
     have r0:=R9.out.at 0 rfl;have r1:=R9.out.at 1 rfl;have r2:=R9.out.at 2 rfl;have rz:=R9.out.lt
     have g0:=R9.out.frozen 0
     have g1:=R9.out.frozen 1
     have g2:=R9.out.frozen 2
     have tF:Touch (fun j=>j=fb+1+1) w9 (((w9.setCell ⟨fb+1+1,0,none⟩ (.slice va pp.length vc)).setCell ⟨fb+1+1,1,none⟩ (.int .u64 cc)).setCell ⟨fb+1+1,2,none⟩ (.int .i64 kk)):=(((Touch.refl (fun j=>j=fb+1+1) w9).setCell (p:=⟨fb+1+1,0,none⟩) (.inl rfl) _).setCell (p:=⟨fb+1+1,1,none⟩) (.inl rfl) _).setCell (p:=⟨fb+1+1,2,none⟩) (.inl rfl) _
     have HOW:=aA (HO.out.touch tF (fun k hk e=>by have:=(aG HO.out hk).1;have:=R2.out.lt;omega))
     have HXW:=aA (((Touch.of_ext (S:=fun _=>False) (X2.out.trans X29.out)).after tF (fun k hk e=>by have:=HFB.out;omega)).ext)
     clear tF
     go_wp2_with fail
     refine bodyPost_ret (v:= .tuple #[.agg #[.slice va pp.length vc, .int .u64 cc, .int .i64 kk], .int .i64 er]) (by simp[results,Tryz.results12,go_sem, *]) rfl ?_
     refine⟨HXW.out,pp,cc,kk,er,_, .inr (.inr (.inr ⟨HIN.out,by have:=HB.out;omega,fun h=> ?_,g,hl,HRUN.out⟩)),rfl,HOW.out.lower (by have:=X2.out.size;have:=HFB.out;omega)⟩
     rcases h with h|h
     ·exact HZ1c.out (HCC.out.1.symm.trans h)
     ·exact HZ2c.out (HCC.out.2.symm.trans h)
end Go.Proofs.YtaellcgglldjaaaGreat

