/- Part of a proof: HeapB. -/
import Derived.Test.YtaellcgglldjaaaGreatHierFindsQ10
import Derived.BigRegion
import Derived.WalkMore
import Derived.Test.YtaellcgglldjaaaGreatHierFindsQ01
import Derived.Deep.Cut
import Derived.WalkSmall
set_option linter.all false
set_option linter.unusedVariables false
set_option linter.unusedSimpArgs false
namespace Go.Proofs.YtaellcgglldjaaaGreat
open Go.RowKit
def thingE:Enc aM:=⟨5,fun t=>[.int .i64 t.1, .int .u64 t.2.1.1, .int .u64 t.2.1.2, .int .i64 t.2.2.1, .int .i64 t.2.2.2],fun _=>rfl,fun _ u hu=>by simp at hu;rcases hu with rfl|rfl|rfl|rfl|rfl<;>rfl⟩
theorem aIf:cH Tryz.prog 177 245 (.agg #[.int .i64 0, .int .u64 0, .int .u64 0, .int .i64 0, .int .i64 0]) 5 40:=⟨Tryz.underlying177,by kernel_rfl,rfl,by decide⟩
def KM:MapK:=⟨136,3,3, .i64, .i64⟩
theorem lQ:KM.Ok Tryz.prog:=⟨Tryz.underlying136,Tryz.underlying3,Tryz.underlying3,fun _=>by kernel_rfl⟩
theorem aFe (a b:aM) (w:World):Calls Tryz.prog 177 #[aAr a,aAr b] w fun e w'=>e= .returned (.bool (dX a b))∧Ext w w':=by
 obtain⟨i,ka⟩:=a
 obtain⟨j,kb⟩:=b
 have HL:=aA (fun w'=>vY ka kb w')
 have HE:=fun w'=>aM7 ka kb w'
 obtain⟨r,hr⟩: ∃r,dX (i,ka) (j,kb)=r:=⟨_,rfl⟩
 rw[hr]
 have HR:=aA hr
 clear hr
 obtain⟨⟨f,h⟩,y,x⟩:=ka
 obtain⟨⟨f',h'⟩,y',x'⟩:=kb
 unfold aAr
 simp only
 unfold eX at HL HE
 simp only at HL HE
 by_cases hk:((f,h),(y,x))=((f',h'),(y',x'))
 ·have hd:decide (((f,h),(y,x))=((f',h'),(y',x')))=true:=by simpa using hk
  have HA:=aA (show r=decide (i<j) by rw[←HR.out];unfold dX;rw[if_pos hk])
  rw[hd]at HE
  clear hd hk
  go_enter Tryz.func177,Tryz.ntmps177
  go_wp2
  go_ret
  exact⟨by rw[HA.out];rfl,z_x⟩
 have hd:decide (((f,h),(y,x))=((f',h'),(y',x')))=false:=by simpa using hk
 have HA:=aA (show r=bP ((f,h),(y,x)) ((f',h'),(y',x')) by rw[←HR.out];unfold dX;rw[if_neg hk])
 rw[hd]at HE
 clear hd hk
 go_enter Tryz.func177,Tryz.ntmps177
 go_wp2_with (go_at_call 146;refine(HL.out _).mono ?_;rintro e w1 ⟨rfl,hb1⟩;obtain⟨hc1,hf1⟩:=hb1.cells;have hz1:=hb1.size;(try simp only[zS]at hz1);have z1_0:w.heap.size<w1.heap.size:=(by omega);have z1_1:w.heap.size+1<w1.heap.size:=(by omega))
 go_ret
 exact⟨by rw[HA.out];rfl,z_x⟩
structure HeapAt (w:World) (h:Nat) (v:Value) (mb:Nat) (l:List aM):Prop where
 blk:Blk w h 179 #[v, .map (some mb)]
 own:Own thingE w 0 245 v l
 map:MapIn Tryz.prog KM w mb (eD (ids l)) l.length
 nodup:(ids l).Nodup
 wf: ∀t∈l,bN .i64 t.1
theorem cR {w:World} {g n c:Nat} {l:List aM} (h:Own thingE w 0 245 (.slice (some ⟨g,0,none⟩) n c) l) {i:Nat} (hi:i<l.length):
  (w.cell? ⟨g,i*5,none⟩=some (.int .i64 (tat l i).1)∧w.cell? ⟨g,i*5+1,none⟩=some (.int .u64 (tat l i).2.1.1)∧w.cell? ⟨g,i*5+2,none⟩=some (.int .u64 (tat l i).2.1.2)∧w.cell? ⟨g,i*5+3,none⟩=some (.int .i64 (tat l i).2.2.1)∧w.cell? ⟨g,i*5+4,none⟩=some (.int .i64 (tat l i).2.2.2))∧
  (w.frozen? ⟨g,i*5,none⟩=false∧w.frozen? ⟨g,i*5+1,none⟩=false∧w.frozen? ⟨g,i*5+2,none⟩=false∧w.frozen? ⟨g,i*5+3,none⟩=false∧w.frozen? ⟨g,i*5+4,none⟩=false):=by
 obtain⟨a,c',e⟩:=h.slice
 have en:n=l.length:=by injection e
 subst en
 have h':w.ownsRow 0 245 5 (.slice (some ⟨g,0,none⟩) l.length c) l.length (l.flatMap thingE.cells):=h
 have key: ∀j,j<5→ ∀u,(thingE.cells (tat l i))[j]? =some u→w.cell? ⟨g,i*5+j,none⟩=some u:=by
  intro j hj u hu
  rw[h'.cellAt (i*5+j) (by omega)]
  exact cM thingE l i (tat l i) (by rw[zG hi,dP hi]) j u hu
 exact⟨⟨key 0 (by omega) _ rfl,key 1 (by omega) _ rfl,key 2 (by omega) _ rfl,key 3 (by omega) _ rfl,key 4 (by omega) _ rfl⟩,h'.frozenAt _,h'.frozenAt _,h'.frozenAt _,h'.frozenAt _,h'.frozenAt _⟩
def mC (xs:List Value) (off:Nat):List Value→List Value
 |[]=>xs
 |u::us=>mC (xs.set off u) (off+1) us
theorem aC7 (us:List Value): ∀(pre mid post:List Value),us.length=mid.length→mC (pre++(mid++post)) pre.length us=pre++(us++post):=by
 induction us with
 |nil=>intro pre mid post h;have:mid=[]:=List.eq_nil_of_length_eq_zero h.symm;subst this;rfl
 |cons u us ih=>
  intro pre mid post h
  cases mid with
  |nil=>simp at h
  |cons m mid=>
   simp only[mC]
   have e:(pre++(m::mid++post)).set pre.length u=(pre++[u])++(mid++post):=by simp
   rw[e]
   have:=ih (pre++[u]) mid post (by simpa using h)
   simp only[List.length_append,List.length_cons,List.length_nil,Nat.zero_add]at this
   rw[this];simp
theorem yX {α:Type} (E:Enc α) (l:List α) (i:Nat) (a:α) (hi:i<l.length):(l.set i a).flatMap E.cells=mC (l.flatMap E.cells) (i*E.size) (E.cells a):=by
 have e:l=l.take i++l[i]::l.drop (i+1):=by simp
 have e2:l.set i a=l.take i++a::l.drop (i+1):=by rw[List.set_eq_take_append_cons_drop,if_pos hi]
 have hl:((l.take i).flatMap E.cells).length=i*E.size:=by rw[E.flat_len,List.length_take,Nat.min_eq_left (by omega)]
 rw[e2]
 conv=>rhs;rw[e]
 rw[List.flatMap_append,List.flatMap_append,List.flatMap_cons,List.flatMap_cons,←hl]
 exact(aC7 (E.cells a) _ _ _ (by rw[E.len,E.len])).symm
def fD (w:World) (g off:Nat):List Value→World
 |[]=>w
 |u::us=>fD (w.setCell ⟨g,off,none⟩ u) g (off+1) us
theorem cY (g:Nat) (us:List Value): ∀(w:World) (off:Nat),Touch (fun k=>k=g) w (fD w g off us):=by
 induction us with
 |nil=>intro w off;exact Touch.refl _ _
 |cons u us ih=>
  intro w off
  have h1:Touch (fun k=>k=g) w (w.setCell ⟨g,off,none⟩ u):=(Touch.refl (fun k=>k=g) w).setCell (p:=⟨g,off,none⟩) (.inl rfl) u
  exact h1.trans (ih _ _)
theorem rY {base:Nat} {e:TypeId} {size g n cap:Nat} (us:List Value): ∀(w:World) (off:Nat) (xs:List Value),w.ownsRow base e size (.slice (some ⟨g,0,none⟩) n cap) n xs→(fD w g off us).ownsRow base e size (.slice (some ⟨g,0,none⟩) n cap) n (mC xs off us):=by
 induction us with
 |nil=>intro w off xs h;exact h
 |cons u us ih=>intro w off xs h;exact ih _ _ _ (h.stored off u).1
theorem Own.turn {α:Type} {E:Enc α} {w:World} {base:Nat} {e:TypeId} {g n c:Nat} {l:List α} (h:Own E w base e (.slice (some ⟨g,0,none⟩) n c) l) {i:Nat} (hi:i<l.length) (a:α):Own E (fD w g (i*E.size) (E.cells a)) base e (.slice (some ⟨g,0,none⟩) n c) (l.set i a):=by
 obtain⟨a',c',e'⟩:=h.slice
 have en:n=l.length:=by injection e'
 subst en
 unfold Own at h⊢
 rw[List.length_set,yX E l i a hi]
 exact rY _ _ _ _ h
def eS (h:Nat) (v:Value) (mb:Nat) (k:Nat):Prop:=k=h∨v.ownBlock=some k∨k=mb
section
variable {w:World} {h:Nat} {v:Value} {mb:Nat} {l:List aM}
theorem HeapAt.vh (H:HeapAt w h v mb l):v.ownBlock≠some h:=H.blk.ne_own H.own (by decide)
theorem HeapAt.vm (H:HeapAt w h v mb l):v.ownBlock≠some mb:=by obtain⟨D,h1,_⟩:=H.map;exact tS H.own h1
theorem HeapAt.hm (H:HeapAt w h v mb l):h≠mb:=by obtain⟨D,h1,_⟩:=H.map;exact H.blk.ne_map h1
theorem HeapAt.touch {S:Nat→Prop} {w':World} (H:HeapAt w h v mb l) (t:Touch S w w') (hs: ∀k,eS h v mb k→ ¬S k):HeapAt w' h v mb l:=
 ⟨H.blk.touch t (hs h (.inl rfl)),H.own.touch t (fun k hk=>hs k (.inr (.inl hk))),H.map.touch t (hs mb (.inr (.inr rfl))),H.nodup,H.wf⟩
theorem HeapAt.ext {w':World} (H:HeapAt w h v mb l) (t:Ext w w'):HeapAt w' h v mb l:=H.touch (Touch.of_ext (S:=fun _=>False) t) (fun _ _ x=>x)
theorem HeapAt.foot_lt (H:HeapAt w h v mb l) {k:Nat} (hk:eS h v mb k):k<w.heap.size:=by
 rcases hk with rfl|hk|rfl
 ·exact H.blk.lt
 ·exact(aF H.own hk).2
 exact H.map.lt
end
theorem aK9 {l:List aM} (hn:(ids l).Nodup) {i k:Nat} (hi:i<l.length) (hk:k<l.length) (x:Int):
  upd (upd (eD (ids l)) (tat l k).1 i) (tat l i).1 k x=eD (ids (swp l i k)) x:=by
 have hp:=kD (iS hi hk)
 have hn':(ids (swp l i k)).Nodup:=hp.nodup_iff.2 hn
 have inj: ∀{p q:Nat},p<l.length→q<l.length→(tat l p).1=(tat l q).1→p=q:=by
  intro p q h1 h2 e
  have e1:=dH h1
  have e2:=dH h2
  obtain⟨_,g1⟩:=zJ e1
  obtain⟨_,g2⟩:=zJ e2
  exact(List.getElem_inj (h₀:=by rw[dI];exact h1) (h₁:=by rw[dI];exact h2) hn).1 (by rw[g1,g2,e])
 refine sL hn' (fun j y hj=> ?_) (fun y hy=> ?_) x
 ·have hjl:j<l.length:=by
   obtain⟨h1,_⟩:=zJ hj
   rw[dI,gX]at h1;exact h1
  rw[dH (by rw[gX];exact hjl),jD hi hk]at hj
  have hj:=Option.some.inj hj
  unfold upd
  by_cases e1:j=k
  ·subst e1
   rw[if_pos rfl]at hj
   rw[if_pos hj.symm]
  rw[if_neg e1]at hj
  by_cases e2:j=i
  ·subst e2
   rw[if_pos rfl]at hj
   rw[if_neg (by rw[←hj];exact fun e=>e1 (inj hk hi e).symm),if_pos hj.symm]
  rw[if_neg e2]at hj
  rw[if_neg (by rw[←hj];exact fun e=>e2 (inj hjl hi e)),if_neg (by rw[←hj];exact fun e=>e1 (inj hjl hk e)),←hj]
  exact oH hn (dH hjl)
 have hy':y∉ids l:=fun h=>hy (hp.mem_iff.2 h)
 have m1:(tat l k).1∈ids l:=List.mem_of_getElem? (dH hk)
 have m2:(tat l i).1∈ids l:=List.mem_of_getElem? (dH hi)
 unfold upd
 rw[if_neg (by rintro rfl;exact hy' m2),if_neg (by rintro rfl;exact hy' m1)]
 exact nC hy'
theorem dG {n:Nat} (h:n≤1000000):bN .i64 (n:Int):=by
 unfold bN
 have hmin:IntKind.i64.min= -9223372036854775808:=rfl
 have hmax:IntKind.i64.max=9223372036854775807:=rfl
 simp only[Lit.wf,Bool.and_eq_true,decide_eq_true_eq]
 omega
theorem zZ {l:List aM} {i:Nat} (hi:i<l.length):(eD (ids l) (tat l i).1).isSome=true:=by
 rw[nD];simpa using List.mem_of_getElem? (dH hi)
set_option maxRecDepth 100000 in
set_option maxHeartbeats 4000000 in
theorem pG {w:World} {h g c mb:Nat} {l:List aM} (H:HeapAt w h (.slice (some ⟨g,0,none⟩) l.length c) mb l) {i k:Nat} (hi:i<l.length) (hk:k<l.length) (hl:l.length≤1000000):Calls Tryz.prog 147 #[.pointer (some ⟨h,0,none⟩), .int .i64 i, .int .i64 k] w fun e w'=>e= .returned (.tuple #[])∧HeapAt w' h (.slice (some ⟨g,0,none⟩) l.length c) mb (swp l i k)∧Touch (eS h (.slice (some ⟨g,0,none⟩) l.length c) mb) w w':=by
 obtain⟨⟨a0,a1,a2,a3,a4⟩,fa0,fa1,fa2,fa3,fa4⟩:=cR H.own hi
 obtain⟨⟨b0,b1,b2,b3,b4⟩,fb0,fb1,fb2,fb3,fb4⟩:=cR H.own hk
 have c0:w.cell? ⟨h,0,none⟩=some (.slice (some ⟨g,0,none⟩) l.length c):=H.blk.cell 0
 have c1:w.cell? ⟨h,1,none⟩=some (.map (some mb)):=H.blk.cell 1
 have HH:=aA H
 obtain⟨w1,hw1⟩: ∃w1,w1=fD (fD w g (i*5) (thingE.cells (tat l k))) g (k*5) (thingE.cells (tat l i)):=⟨_,rfl⟩
 have HW1:=aA hw1
 have o1:Own thingE w1 0 245 (.slice (some ⟨g,0,none⟩) l.length c) (swp l i k):=by
  rw[hw1]
  exact(H.own.turn hi (tat l k)).turn (by simpa using hk) (tat l i)
 have t1:Touch (fun k=>k=g) w w1:=by
  rw[hw1]
  exact(cY g _ _ _).trans (cY g _ _ _)
 have gh: ¬h=g:=fun e=>H.vh (by rw[e];rfl)
 have gm: ¬mb=g:=fun e=>H.vm (by rw[e];rfl)
 have b1':=H.blk.touch t1 gh
 have m1':=H.map.touch t1 gm
 have hS:(swp l i k).length=l.length:=gX _ _ _
 obtain⟨⟨d0,_⟩,_⟩:=cR o1 (i:=i) (by omega)
 obtain⟨⟨d1,_⟩,_⟩:=cR o1 (i:=k) (by omega)
 have dk:(tat (swp l i k) k).1=(tat l i).1:=by rw[jD hi hk,if_pos rfl]
 have di:(tat (swp l i k) i).1=(tat l k).1:=by
  rw[jD hi hk]
  by_cases e:i=k
  ·rw[if_pos e,e]
  rw[if_neg e,if_pos rfl]
 rw[di]at d0
 rw[dk]at d1
 obtain⟨v0,st,w4,w5,r4,_,r5,m5,t5⟩:=m1'.drew.drew.entry lQ (x:=(tat l k).1) (c:=i) (H.wf _ (by rw[dP hk];exact List.getElem_mem hk)) (dG (by omega)) hl
 have q5:(if(eD (ids l) (tat l k).1).isSome then l.length else l.length+1)=l.length:=by rw[if_pos (zZ hk)]
 rw[q5]at m5
 obtain⟨v0',st',w6,w7,r6,_,r7,m7,t7⟩:=m5.entry lQ (x:=(tat l i).1) (c:=k) (H.wf _ (by rw[dP hi];exact List.getElem_mem hi)) (dG (by omega)) hl
 have q7:(if(upd (eD (ids l)) (tat l k).1 i (tat l i).1).isSome then l.length else l.length+1)=l.length:=by
  rw[if_pos]
  unfold upd
  split
  ·rfl
  exact zZ hi
 rw[q7]at m7
 have M7:=aA (m7.congr (aK9 H.nodup hi hk))
 have T7:=aA (t1.mono (S':=eS h (.slice (some ⟨g,0,none⟩) l.length c) mb) (fun k _ hk=> .inr (.inl (by rw[hk];rfl)))|>.trans (((Touch.refl _ w1).drew.drew.trans (t5.mono (fun k _ hk=> .inr (.inr hk)))).trans (t7.mono (fun k _ hk=> .inr (.inr hk)))))
 have t17:Touch (fun k=>k=mb) w1 w7:=((Touch.refl _ w1).drew.drew.trans t5).trans t7
 have F7:=aA (show HeapAt w7 h (.slice (some ⟨g,0,none⟩) l.length c) mb (swp l i k) from⟨b1'.touch t17 H.hm,o1.touch t17 (fun k hk=>by simp only[Value.ownBlock,Option.some.injEq]at hk;subst hk;exact fun e=>gm e.symm),by rw[hS];exact M7.out,(kD (iS hi hk)).nodup_iff.2 H.nodup,fun t ht=>H.wf t ((iS hi hk).mem_iff.1 ht)⟩)
 have e0:w1.cell? ⟨h,0,none⟩=some (.slice (some ⟨g,0,none⟩) l.length c):=b1'.cell 0
 have e1:w1.cell? ⟨h,1,none⟩=some (.map (some mb)):=b1'.cell 1
 clear o1 t1 gh gm b1' m1' hS dk di m5 t5 q5 m7 t7 q7 M7 t17 hw1
 simp only[KM]at r4 r5 r6 r7
 have KE:=aA (show _∧_∧_∧_∧_∧_∧_∧_ from⟨d0,d1,r4,r5,r6,r7,e0,e1⟩)
 clear d0 d1 r4 r5 r6 r7 e0 e1
 obtain⟨n,hn⟩: ∃n,l.length=n:=⟨_,rfl⟩
 rw[hn]at c0 hi hk F7 T7 KE⊢
 have HN:=aA hn
 generalize tat l i=A at *
 generalize tat l k=B at *
 obtain⟨A0,⟨A1,A2⟩,A3,A4⟩:=A
 obtain⟨B0,⟨B1,B2⟩,B3,B4⟩:=B
 simp only at a0 a1 a2 a3 a4 b0 b1 b2 b3 b4
 have hi':(i:Int)<(n:Int):=by omega
 have hk':(k:Int)<(n:Int):=by omega
 have far: ∀(w:World) (p q:Nat) (u:Value),p≠q→(w.setCell ⟨g,p,none⟩ u).cell? ⟨g,q,none⟩=w.cell? ⟨g,q,none⟩:=fun w p q u hpq=>World.cell?_setCell_other _ _ _ _ (by intro x;injection x;omega)
 have two: ∀(w:World) (p q:Nat) (u:Value),w.cell? ⟨g,q,none⟩=some u→(w.setCell ⟨g,p,none⟩ u).cell? ⟨g,q,none⟩=some u:=by
  intro w p q u hu
  by_cases e:p=q
  ·subst e;exact World.cell?_setCell_same _ _ _ hu
  rw[far _ _ _ _ e];exact hu
 have t0:(w.setCell ⟨g,i*5,none⟩ (.int .i64 B0)).cell? ⟨g,k*5,none⟩=some (.int .i64 B0):=two _ _ _ _ (by exact b0)
 have t1:((w.setCell ⟨g,i*5,none⟩ (.int .i64 B0)).setCell ⟨g,i*5+1,none⟩ (.int .u64 B1)).cell? ⟨g,k*5+1,none⟩=some (.int .u64 B1):=two _ _ _ _ (by rw[far _ _ _ _ (by omega)];exact b1)
 have t2:(((w.setCell ⟨g,i*5,none⟩ (.int .i64 B0)).setCell ⟨g,i*5+1,none⟩ (.int .u64 B1)).setCell ⟨g,i*5+2,none⟩ (.int .u64 B2)).cell? ⟨g,k*5+2,none⟩=some (.int .u64 B2):=two _ _ _ _ (by rw[far _ _ _ _ (by omega)];rw[far _ _ _ _ (by omega)];exact b2)
 have t3:((((w.setCell ⟨g,i*5,none⟩ (.int .i64 B0)).setCell ⟨g,i*5+1,none⟩ (.int .u64 B1)).setCell ⟨g,i*5+2,none⟩ (.int .u64 B2)).setCell ⟨g,i*5+3,none⟩ (.int .i64 B3)).cell? ⟨g,k*5+3,none⟩=some (.int .i64 B3):=two _ _ _ _ (by rw[far _ _ _ _ (by omega)];rw[far _ _ _ _ (by omega)];rw[far _ _ _ _ (by omega)];exact b3)
 have t4:(((((w.setCell ⟨g,i*5,none⟩ (.int .i64 B0)).setCell ⟨g,i*5+1,none⟩ (.int .u64 B1)).setCell ⟨g,i*5+2,none⟩ (.int .u64 B2)).setCell ⟨g,i*5+3,none⟩ (.int .i64 B3)).setCell ⟨g,i*5+4,none⟩ (.int .i64 B4)).cell? ⟨g,k*5+4,none⟩=some (.int .i64 B4):=two _ _ _ _ (by rw[far _ _ _ _ (by omega)];rw[far _ _ _ _ (by omega)];rw[far _ _ _ _ (by omega)];rw[far _ _ _ _ (by omega)];exact b4)
 clear far two
 clear H hn
 go_enter Tryz.func147,Tryz.ntmps147
 go_wp2
 go_region
 clear t0 t1 t2 t3 t4 a0 a1 a2 a3 a4 b0 b1 b2 b3 b4 fa0 fa1 fa2 fa3 fa4 fb0 fb1 fb2 fb3 fb4 c0 c1
 rw[show(((((((((w.setCell ⟨g,i*5,none⟩ (.int .i64 B0)).setCell ⟨g,i*5+1,none⟩ (.int .u64 B1)).setCell ⟨g,i*5+2,none⟩ (.int .u64 B2)).setCell ⟨g,i*5+3,none⟩ (.int .i64 B3)).setCell ⟨g,i*5+4,none⟩ (.int .i64 B4)).setCell ⟨g,k*5,none⟩ (.int .i64 A0)).setCell ⟨g,k*5+1,none⟩ (.int .u64 A1)).setCell ⟨g,k*5+2,none⟩ (.int .u64 A2)).setCell ⟨g,k*5+3,none⟩ (.int .i64 A3)).setCell ⟨g,k*5+4,none⟩ (.int .i64 A4)=w1 from HW1.out.symm]
 obtain⟨d0,d1,r4,r5,r6,r7,e0,e1⟩:=KE.out
 try simp only at d0
 try simp only at d1
 try simp only at r4
 try simp only at r6
 clear KE HW1
 go_wp2
 go_region
 go_end0
 exact⟨rfl,F7.out,T7.out⟩
def xS (w:World) (h:Nat) (v:Value) (mb:Nat) (l:List aM) (w':World):Prop:=
 ∃l',HeapAt w' h v mb l'∧Touch (eS h v mb) w w'∧l'.Perm l∧dL l'
theorem xZ (a b:aM) (w:World):Calls Tryz.prog 177 #[.agg #[.int .i64 a.1, .int .u64 a.2.1.1, .int .u64 a.2.1.2, .int .i64 a.2.2.1, .int .i64 a.2.2.2], .agg #[.int .i64 b.1, .int .u64 b.2.1.1, .int .u64 b.2.1.2, .int .i64 b.2.2.1, .int .i64 b.2.2.2]] w fun e w'=>e= .returned (.bool (dX a b))∧Ext w w':=aFe a b w
theorem aMy {k:Nat} (h:0<k) (hk:k≤1000000):IntKind.i64.wrap (((k:Int)-1).tdiv 2)=((par k:Nat):Int):=by
 rw[oK (by omega) (by omega) (by omega)]
 unfold par
 omega
set_option maxRecDepth 100000 in
set_option maxHeartbeats 4000000 in
theorem vZ {w:World} {h mb i:Nat} {v:Value} {l:List aM} (H:HeapAt w h v mb l) (hi:i<l.length) (hl:l.length≤1000000) (hr:kR l i):
  Calls Tryz.prog 145 #[.pointer (some ⟨h,0,none⟩), .int .i64 i] w fun e w'=>e= .returned (.tuple #[])∧xS w h v mb l w':=by
 obtain⟨g,c,rfl,_,_⟩: ∃g c,v= .slice (some ⟨g,0,none⟩) l.length c∧0≤g∧g<w.heap.size:=by
  rcases H.own.2 with⟨_,hn⟩|⟨g,cap,cur,hv,hb,hg,_⟩
  ·omega
  exact⟨g,cap,hv,hb,lt_of_block hg⟩
 obtain⟨n,hn⟩: ∃n,l.length=n:=⟨_,rfl⟩
 rw[hn]at H hl⊢
 have HH:=aA H
 have HR:=aA hr
 have HN:=aA hn
 have HI:=aA hi
 clear H hr hn hi
 go_enter Tryz.func145,Tryz.ntmps145
 go_wp2
 go_loopw [1] (fun i wr=> ∃(k:Nat) (m:List aM),i= .int .i64 k∧k<n∧m.Perm l∧kR m k∧HeapAt wr h (.slice (some ⟨g,0,none⟩) n c) mb m∧Touch (eS h (.slice (some ⟨g,0,none⟩) n c) mb) w wr) (fun i _=>(intOf i).toNat)
 case atStart=>exact⟨i,l,rfl,by have:=HI.out;have:=HN.out;omega,List.Perm.refl _,HR.out,HH.out,Touch.refl _ _⟩
 obtain⟨k,m,rfl,hk,hp,hro,hat,ht⟩:=hrel
 have hm:m.length=n:=by rw[hp.length_eq,HN.out]
 have A:=aA hat
 have P:=aA hp
 have R:=aA hro
 have T:=aA ht
 have HM:=aA hm
 have c0:wr.cell? ⟨h,0,none⟩=some (.slice (some ⟨g,0,none⟩) n c):=hat.blk.cell 0
 have zh:=hat.blk.lt
 have hkm:k<m.length:=by omega
 obtain⟨⟨a0,a1,a2,a3,a4⟩,_⟩:=cR hat.own hkm
 by_cases h0:k=0
 ·subst h0
  have hd:decide ((0:Int)<((0:Nat):Int))=false:=by simp
  clear hat hp hro ht hm hkm a0 a1 a2 a3 a4
  go_wp2_with fail
  go_quiet (fail)
  go_wp2
  go_end0
  exact⟨rfl,m,A.out.ext z_x,T.out.trans (Touch.of_ext z_x),P.out,aA8 R.out (.inl rfl)⟩
 have hpos:(0:Int)<(k:Int):=by omega
 have hw1:IntKind.i64.wrap ((k:Int)-1)=(k:Int)-1:=IntWalk.i64_in _ (by omega)
 have hd2:decide (0<k)=true:=by simp;omega
 have hq:=aMy (k:=k) (by omega) (by omega)
 have hpl:par k<k:=eR (by omega)
 obtain⟨⟨b0,b1,b2,b3,b4⟩,_⟩:=cR hat.own (i:=par k) (by omega)
 have hk':(k:Int)<(n:Int):=by omega
 have hpn:((par k:Nat):Int)<(n:Int):=by omega
 have hp0:(0:Int)≤((par k:Nat):Int):=by omega
 have HA:=aA (fun w=>xZ (tat m k) (tat m (par k)) w)
 have hsw:=aA (fun(w':World) (X:HeapAt w' h (.slice (some ⟨g,0,none⟩) n c) mb m)=>pG (w:=w') (g:=g) (c:=c) (l:=m) (by rw[HM.out];exact X) (i:=k) (k:=par k) hkm (by omega) (by omega))
 rw[HM.out]at hsw
 have hg:g<wr.heap.size:=A.out.foot_lt (.inr (.inl rfl))
 have H0:=aA h0
 clear hat hp hro ht hm hkm h0
 cases hah:dX (tat m k) (tat m (par k))
 ·rw[hah]at HA
  have HF:=aA hah
  clear hah
  obtain⟨tk,htk⟩: ∃tk,tat m k=tk:=⟨_,rfl⟩
  obtain⟨tp,htp⟩: ∃tp,tat m (par k)=tp:=⟨_,rfl⟩
  rw[htk]at a0 a1 a2 a3 a4 HA
  rw[htp]at b0 b1 b2 b3 b4 HA
  clear htk htp
  go_wp2_with fail
  go_region_held3 (fun W=>(∀b o,b<wr.heap.size→W.cell? ⟨b,o,none⟩=wr.cell? ⟨b,o,none⟩)∧Ext wr W) (first|with_reducible exact bG _|exact aI z_x)
   (first|(go_at_call 177;refine(HA.out _).mono ?_;rintro e w3 ⟨rfl,hb3⟩))
  rename_i hS
  have hx3:Ext wr w3:=hS.2
  clear hS
  go_wp2
  go_end0
  exact⟨rfl,m,A.out.ext hx3,T.out.trans (Touch.of_ext hx3),P.out,aA8 R.out (.inr HF.out)⟩
 rw[hah]at HA
 have HF:=aA hah
 clear hah
 obtain⟨tk,htk⟩: ∃tk,tat m k=tk:=⟨_,rfl⟩
 obtain⟨tp,htp⟩: ∃tp,tat m (par k)=tp:=⟨_,rfl⟩
 rw[htk]at a0 a1 a2 a3 a4 HA
 rw[htp]at b0 b1 b2 b3 b4 HA
 clear htk htp
 go_wp2_with fail
 go_region_held3 (fun W=>(∀b o,b<wr.heap.size→W.cell? ⟨b,o,none⟩=wr.cell? ⟨b,o,none⟩)∧Ext wr W) (first|with_reducible exact bG _|exact aI z_x)
  (first|(go_at_call 177;refine(HA.out _).mono ?_;rintro e w3 ⟨rfl,hb3⟩))
 rename_i hS
 have hx3:Ext wr w3:=hS.2
 clear hS a0 a1 a2 a3 a4 b0 b1 b2 b3 b4 c0
 go_wp2_with (go_at_call 147;refine(hsw.out _ (A.out.ext hx3)).mono ?_;rintro e w4 ⟨rfl,A4,t4⟩;have A4:=aA A4;have T4:=aA t4;clear t4)
 go_roundw
 case rel=>exact⟨par k,swp m k (par k),rfl,by omega,(iS (by have:=HM.out;omega) (by have:=HM.out;omega)).trans P.out,aHm R.out (by omega) (by have:=HM.out;omega) HF.out,A4.out,T.out.trans ((Touch.of_ext hx3).trans T4.out)⟩
 simp[intOf];omega
def mT (m:List aM) (n k f q:Nat):Prop:=
 (f=k∨par f=k∧0<f∧f<n)∧ ∀j,(j=k∨2*k+1≤j∧j<q)→j<n→Le (tat m f) (tat m j)
theorem aBp (m:List aM) (n k:Nat):mT m n k k (2*k+1):=⟨.inl rfl,fun j hj _=>by
 rcases hj with rfl|hj
 ·exact Le.refl _
 omega⟩
theorem aE7 {m:List aM} {n k f q:Nat} (h:mT m n k f q) (ha:dX (tat m q) (tat m f)=false):mT m n k f (q+1):=by
 refine⟨h.1,fun j hj hjn=> ?_⟩
 by_cases e:j=q
 ·subst e;exact ha
 exact h.2 j (by omega) hjn
theorem aE8 {m:List aM} {n k f q:Nat} (h:mT m n k f q) (h1:2*k+1≤q) (h2:q≤2*k+2) (hq:q<n) (ha:dX (tat m q) (tat m f)=true):mT m n k q (q+1):=by
 refine⟨.inr ⟨by unfold par;omega,by omega,hq⟩,fun j hj hjn=> ?_⟩
 by_cases e:j=q
 ·subst e;exact Le.refl _
 exact(rO ha).trans (h.2 j (by omega) hjn)
theorem wD {m:List aM} {k q:Nat} (h:mT m m.length k k q) (hs:jF m k) (hq:q=2*k+3∨m.length≤q):dL m:=
 aK5 hs fun j j0 hj hp=>h.2 j (by unfold par at hp;omega) hj
theorem zN {m:List aM} {k f q:Nat} (h:mT m m.length k f q) (hs:jF m k) (hk:k<m.length) (hf:f≠k) (hq:q=2*k+3∨m.length≤q):jF (swp m k f) f:=by
 rcases h.1 with h1|⟨h1,h2,h3⟩
 ·exact absurd h1 hf
 exact aHv hs hk h3 h2 h1 (h.2 k (.inl rfl) hk) fun j j0 hj hp=>h.2 j (by unfold par at hp;omega) hj
set_option maxRecDepth 100000 in
set_option maxHeartbeats 2000000 in
theorem aGg {w:World} {h mb:Nat} {v:Value} {l:List aM} (H:HeapAt w h v mb l) (hl:l.length≤1000000) (hr:jF l 0):
  Calls Tryz.prog 148 #[.pointer (some ⟨h,0,none⟩), .int .i64 0] w fun e w'=>e= .returned (.tuple #[])∧xS w h v mb l w':=by
 obtain⟨a,c,rfl⟩:=H.own.slice
 obtain⟨n,hn⟩: ∃n,l.length=n:=⟨_,rfl⟩
 rw[hn]at H hl⊢
 have HH:=aA H
 have HR:=aA hr
 have HN:=aA hn
 clear H hr hn
 go_enter Tryz.func148,Tryz.ntmps148
 go_wp2
 apply wp_scope_straight
 go_wp2
 apply wp_label
 go_wp2
 go_loopw [1] (fun i wr=> ∃(k:Nat) (m:List aM),i= .int .i64 k∧(k<n∨n=0∧k=0)∧m.Perm l∧jF m k∧HeapAt wr h (.slice a n c) mb m∧Touch (eS h (.slice a n c) mb) w wr) (fun i _=>n-(intOf i).toNat)
 case atStart=>exact⟨0,l,rfl,by omega,List.Perm.refl _,HR.out,HH.out,Touch.refl _ _⟩
 obtain⟨k,m,rfl,hk,hp,hro,hat,ht⟩:=hrel
 have hm:m.length=n:=by rw[hp.length_eq,HN.out]
 have A:=aA hat
 have P:=aA hp
 have R:=aA hro
 have T:=aA ht
 have HM:=aA hm
 have zh:=hat.blk.lt
 have hkb:k≤1000000:=by omega
 clear hat hp hro ht hm
 go_wp2
 go_loopw [4,5] (fun fs qs wl=> ∃f q:Nat,fs= .int .i64 f∧qs= .int .i64 q∧2*k+1≤q∧q≤2*k+3∧mT m n k f q∧Ext wr wl) (fun _ q _=>2*k+3-(intOf q).toNat)
 case atStart=>exact⟨k,2*k+1,rfl,by go_num,by omega,by omega,aBp m n k,Ext.refl _⟩
 obtain⟨f,q,rfl,rfl,hq1,hq2,hle,hx⟩:=hrel
 have HX:=aA hx
 have LE:=aA hle
 have A2:=aA (A.out.ext hx)
 have zr:=hx.size
 have c0:wr.cell? ⟨h,0,none⟩=some (.slice a n c):=A2.out.blk.cell 0
 have zh2:h<wr.heap.size:=by omega
 have hf2:f≤1000000:=by rcases hle.1 with h1|⟨_,_,h1⟩<;>omega
 have hfn:q<n→f<n:=by intro h0;rcases hle.1 with h1|⟨_,_,h1⟩<;>omega
 clear hx hle
 by_cases hin:q≤2*k+2∧q<n
 ·obtain⟨i1,i2⟩:=hin
  have hfn:=hfn i2
  obtain⟨g,rfl⟩: ∃g,a=some ⟨g,0,none⟩:=by
   rcases A2.out.own.2 with⟨_,hn⟩|⟨g,cap,cur,hv,_⟩
   ·have:=HM.out;omega
   exact⟨g,by injection hv⟩
  obtain⟨⟨a0,a1,a2,a3,a4⟩,_⟩:=cR A2.out.own (i:=q) (by have:=HM.out;omega)
  obtain⟨⟨b0,b1,b2,b3,b4⟩,_⟩:=cR A2.out.own (i:=f) (by have:=HM.out;omega)
  have hg:g<wr.heap.size:=A2.out.foot_lt (.inr (.inl rfl))
  have HA:=aA (fun w=>xZ (tat m q) (tat m f) w)
  obtain⟨tq,htq⟩: ∃t,tat m q=t:=⟨_,rfl⟩
  obtain⟨tf,htf⟩: ∃t,tat m f=t:=⟨_,rfl⟩
  have HTQ:=aA htq
  have HTF:=aA htf
  rw[htq]at a0 a1 a2 a3 a4 HA
  rw[htf]at b0 b1 b2 b3 b4 HA
  clear htq htf
  have j1:(q:Int)≤2*(k:Int)+2:=by omega
  have j2:(q:Int)<(n:Int):=by omega
  have j3:(f:Int)<(n:Int):=by omega
  cases hah:dX tq tf
  ·rw[hah]at HA
   have HF:=aA hah
   clear hah
   go_wp2_with fail
   go_region_held3 (fun W=>(∀b o,b<wr.heap.size→W.cell? ⟨b,o,none⟩=wr.cell? ⟨b,o,none⟩)∧Ext wr W) (first|with_reducible exact bG _|exact aI z_x)
    (first|(go_at_call 177;refine(HA.out _).mono ?_;rintro e w3 ⟨rfl,hb3⟩))
   rename_i hS
   have hx3:Ext wr w3:=hS.2
   clear hS
   go_wp2
   go_roundw
   case rel=>exact⟨f,q+1,rfl,by go_num,by omega,by omega,aE7 LE.out (by rw[HTQ.out,HTF.out];exact HF.out),HX.out.trans hx3⟩
   simp[intOf];omega
  rw[hah]at HA
  have HF:=aA hah
  clear hah
  go_wp2_with fail
  go_region_held3 (fun W=>(∀b o,b<wr.heap.size→W.cell? ⟨b,o,none⟩=wr.cell? ⟨b,o,none⟩)∧Ext wr W) (first|with_reducible exact bG _|exact aI z_x)
   (first|(go_at_call 177;refine(HA.out _).mono ?_;rintro e w3 ⟨rfl,hb3⟩))
  rename_i hS
  have hx3:Ext wr w3:=hS.2
  clear hS
  go_wp2
  go_roundw
  case rel=>exact⟨q,q+1,rfl,by go_num,by omega,by omega,aE8 LE.out hq1 i1 i2 (by rw[HTQ.out,HTF.out];exact HF.out),HX.out.trans hx3⟩
  simp[intOf];omega
 have hex:q=2*k+3∨q≤2*k+2∧n≤q:=by omega
 have HE:=aA (show q=2*k+3∨m.length≤q by have:=HM.out;omega)
 clear hin hfn
 rcases hex with e|⟨e1,e2⟩
 ·have g1:decide ((q:Int)≤2*(k:Int)+2)=false:=by simp;omega
  clear e
  by_cases hf:f=k
  ·subst hf
   go_wp2
   (first|rw[Exit.noGoto_normal]|rw[Exit.noGoto_exit])
   go_end0
   exact⟨rfl,m,A2.out,T.out.trans (Touch.of_ext HX.out),P.out,wD (by rw[HM.out];exact LE.out) R.out HE.out⟩
  have hfc:f<m.length∧k<m.length:=by have:=HM.out;rcases LE.out.1 with h1|⟨_,_,h1⟩<;>omega
  have hne:((f:Int)==(k:Int))=false:=by simp;omega
  have hpf:k<f:=by
   rcases LE.out.1 with h1|⟨h1,h2,_⟩
   ·exact absurd h1 hf
   have:=eR h2;omega
  have hsw:=aA (fun(w':World) (g:Nat) (X:HeapAt w' h (.slice (some ⟨g,0,none⟩) n c) mb m)=>pG (w:=w') (g:=g) (c:=c) (l:=m) (by rw[HM.out];exact X) (i:=k) (k:=f) hfc.2 hfc.1 (by have:=HM.out;omega))
  rw[HM.out]at hsw
  obtain⟨g,rfl⟩: ∃g,a=some ⟨g,0,none⟩:=by
   rcases A2.out.own.2 with⟨_,hn⟩|⟨g,cap,cur,hv,_⟩
   ·omega
   exact⟨g,by injection hv⟩
  have HFN:=aA hf
  clear hf
  go_wp2_with (go_at_call 147;refine(hsw.out _ _ A2.out).mono ?_;rintro e w4 ⟨rfl,A4,t4⟩;have A4:=aA A4;have T4:=aA t4;clear t4)
  go_roundw
  case rel=>exact⟨f,swp m k f,rfl,by have:=HM.out;omega,(iS hfc.2 hfc.1).trans P.out,zN (by rw[HM.out];exact LE.out) R.out hfc.2 HFN.out HE.out,A4.out,T.out.trans ((Touch.of_ext HX.out).trans T4.out)⟩
  have:=HM.out;simp[intOf];omega
 have g1:(q:Int)≤2*(k:Int)+2:=by omega
 have g2:decide ((q:Int)<(n:Int))=false:=by simp;omega
 have g3:decide (q<n)=false:=by simp;omega
 clear e2
 by_cases hf:f=k
 ·subst hf
  go_wp2
  (first|rw[Exit.noGoto_normal]|rw[Exit.noGoto_exit])
  go_end0
  exact⟨rfl,m,A2.out,T.out.trans (Touch.of_ext HX.out),P.out,wD (by rw[HM.out];exact LE.out) R.out HE.out⟩
 have hfc:f<m.length∧k<m.length:=by have:=HM.out;rcases LE.out.1 with h1|⟨_,_,h1⟩<;>omega
 have hne:((f:Int)==(k:Int))=false:=by simp;omega
 have hpf:k<f:=by
  rcases LE.out.1 with h1|⟨h1,h2,_⟩
  ·exact absurd h1 hf
  have:=eR h2;omega
 have hsw:=aA (fun(w':World) (g:Nat) (X:HeapAt w' h (.slice (some ⟨g,0,none⟩) n c) mb m)=>pG (w:=w') (g:=g) (c:=c) (l:=m) (by rw[HM.out];exact X) (i:=k) (k:=f) hfc.2 hfc.1 (by have:=HM.out;omega))
 rw[HM.out]at hsw
 obtain⟨g,rfl⟩: ∃g,a=some ⟨g,0,none⟩:=by
  rcases A2.out.own.2 with⟨_,hn⟩|⟨g,cap,cur,hv,_⟩
  ·omega
  exact⟨g,by injection hv⟩
 have HFN:=aA hf
 clear hf
 go_wp2_with (go_at_call 147;refine(hsw.out _ _ A2.out).mono ?_;rintro e w4 ⟨rfl,A4,t4⟩;have A4:=aA A4;have T4:=aA t4;clear t4)
 go_roundw
 case rel=>exact⟨f,swp m k f,rfl,by have:=HM.out;omega,(iS hfc.2 hfc.1).trans P.out,zN (by rw[HM.out];exact LE.out) R.out hfc.2 HFN.out HE.out,A4.out,T.out.trans ((Touch.of_ext HX.out).trans T4.out)⟩
 have:=HM.out;simp[intOf];omega
def HeapIs (S:Nat→Prop) (w:World) (h:Nat) (l:List aM):Prop:= ∃v mb,HeapAt w h v mb l∧dL l∧ ∀k,eS h v mb k→S k
theorem HeapIs.touch {S S':Nat→Prop} {w w':World} {h:Nat} {l:List aM} (H:HeapIs S w h l) (t:Touch S' w w') (hs: ∀k,S k→ ¬S' k):HeapIs S w' h l:=by
 obtain⟨v,mb,h1,h2,h3⟩:=H
 exact⟨v,mb,h1.touch t (fun k hk=>hs k (h3 k hk)),h2,h3⟩
theorem HeapIs.ext {S:Nat→Prop} {w w':World} {h:Nat} {l:List aM} (H:HeapIs S w h l) (t:Ext w w'):HeapIs S w' h l:=H.touch (S':=fun _=>False) (Touch.of_ext t) (fun _ _ x=>x)
theorem HeapIs.mono {S S':Nat→Prop} {w:World} {h:Nat} {l:List aM} (H:HeapIs S w h l) (hs: ∀k,k<w.heap.size→S k→S' k):HeapIs S' w h l:=by
 obtain⟨v,mb,h1,h2,h3⟩:=H
 exact⟨v,mb,h1,h2,fun k hk=>hs k (h1.foot_lt hk) (h3 k hk)⟩
theorem Touch.after {S S':Nat→Prop} {a b c:World} (h:Touch S a b) (k:Touch S' b c) (hs: ∀k,k<a.heap.size→S' k→S k):Touch S a c:=
 ⟨k.os.trans h.os,k.tape.trans h.tape,k.output.trans h.output,Nat.le_trans h.size k.size,fun i hi hn=>(k.block i (Nat.lt_of_lt_of_le hi h.size) (fun hS=>hn (hs i hi hS))).trans (h.block i hi hn)⟩
theorem sH (w:World):Calls Tryz.prog 42 #[] w fun e w'=> ∃h,e= .returned (.pointer (some ⟨h,0,none⟩))∧w.heap.size≤h∧Ext w w'∧HeapIs (fun k=>w.heap.size≤k) w' h []:=by
 have hmm:= @run_makeMap Tryz.prog
 go_enter Tryz.func42,Tryz.ntmps42
 go_wp2
 go_ret
 refine⟨_,rfl,?_,z_x,?_⟩
 ·simp
 refine⟨.slice none 0 0,w.heap.size,⟨?_,Own.nil _ _ _ _,?_,List.nodup_nil,(fun x hx=>by cases hx)⟩,(fun j _ h=>by simp at h),?_⟩
 ·have:=Blk.new (w.alloc (.map #[] 0)) 179 #[.slice none 0 0, .map (some w.heap.size)]
  simpa using this
 ·exact((MapIn.made (P:=Tryz.prog) (K:=KM) w).ext ((Ext.refl _).alloc _)).congr (fun x=>rfl)
 rintro k (rfl|hk|rfl)
 ·simp
 ·simp[Value.ownBlock]at hk
 exact Nat.le_refl _
theorem sG {w:World} {h mb:Nat} {v:Value} {l:List aM} (H:HeapAt w h v mb l):Calls Tryz.prog 88 #[.pointer (some ⟨h,0,none⟩)] w fun e w'=>e= .returned (.int .i64 l.length)∧w=w':=by
 obtain⟨a,c,rfl⟩:=H.own.slice
 have c0:w.cell? ⟨h,0,none⟩=some (.slice a l.length c):=H.blk.cell 0
 clear H
 go_enter Tryz.func88,Tryz.ntmps88
 go_wp2
 go_ret
 exact⟨rfl,rfl⟩
theorem HeapAt.pushed {w w9:World} {h mb g c:Nat} {v:Value} {l:List aM} (H:HeapAt w h v mb l) {t:aM} (hid:t.1∉ids l) (ht:bN .i64 t.1) (o:Own thingE w9 0 245 (.slice (some ⟨g,0,none⟩) (l.length+1) c) (l++[t])) (T:Touch (fun k=>v.ownBlock=some k) w w9) (hg:v.ownBlock=some g∨w.heap.size≤g):
  Blk (w9.setCell ⟨h,0,none⟩ (.slice (some ⟨g,0,none⟩) (l.length+1) c)) h 179 #[.slice (some ⟨g,0,none⟩) (l.length+1) c, .map (some mb)]∧
  Own thingE (w9.setCell ⟨h,0,none⟩ (.slice (some ⟨g,0,none⟩) (l.length+1) c)) 0 245 (.slice (some ⟨g,0,none⟩) (l.length+1) c) (l++[t])∧
  MapIn Tryz.prog KM (w9.setCell ⟨h,0,none⟩ (.slice (some ⟨g,0,none⟩) (l.length+1) c)) mb (eD (ids l)) l.length∧
  g≠h∧g≠mb∧Touch (eS h v mb) w (w9.setCell ⟨h,0,none⟩ (.slice (some ⟨g,0,none⟩) (l.length+1) c)):=by
 have b9:=H.blk.touch T H.vh
 have gh:g≠h:=by
  rintro rfl
  rcases hg with hg|hg
  ·exact H.vh hg
  have:=H.blk.lt;omega
 have gm:g≠mb:=by
  rintro rfl
  rcases hg with hg|hg
  ·exact H.vm hg
  have:=H.map.lt;omega
 have ts:Touch (fun k=>k=h) w9 (w9.setCell ⟨h,0,none⟩ (.slice (some ⟨g,0,none⟩) (l.length+1) c)):=(Touch.refl (fun k=>k=h) w9).setCell (p:=⟨h,0,none⟩) (.inl rfl) _
 refine⟨by simpa using b9.set_ 0 (.slice (some ⟨g,0,none⟩) (l.length+1) c),o.touch ts (fun k hk=>by simp only[Value.ownBlock,Option.some.injEq]at hk;subst hk;exact gh),(H.map.touch T H.vm).touch ts (fun e=>H.hm e.symm),gh,gm,?_⟩
 exact(T.mono (fun k _ hk=> .inr (.inl hk))).trans (ts.mono (fun k _ hk=> .inl hk))
theorem aJv {l:List aM} {t:aM} (hn:(ids l).Nodup) (ht:t.1∉ids l) (x:Int):upd (eD (ids l)) t.1 (l.length:Int) x=eD (ids (l++[t])) x:=by
 have e:ids (l++[t])=ids l++[t.1]:=by simp[ids]
 refine sL (f:=upd (eD (ids l)) t.1 (l.length:Int)) ?_ (fun i y hy=> ?_) (fun y hy=> ?_) x
 ·rw[e]
  exact List.nodup_append.2 ⟨hn,by simp,fun a ha b hb=>by simp at hb;subst hb;rintro rfl;exact ht ha⟩
 ·rw[e]at hy
  unfold upd
  by_cases hi:i<(ids l).length
  ·rw[List.getElem?_append_left hi]at hy
   rw[if_neg (by rintro rfl;exact ht (List.mem_of_getElem? hy))]
   exact oH hn hy
  rw[List.getElem?_append_right (by omega)]at hy
  obtain⟨h1,h2⟩:=zJ hy
  simp at h1 h2
  rw[if_pos h2.symm]
  rw[dI]at h1 hi
  congr 1
  omega
 rw[e]at hy
 simp at hy
 unfold upd
 rw[if_neg hy.2]
 exact nC hy.1
set_option maxRecDepth 100000 in
set_option maxHeartbeats 2000000 in
theorem aJ8 {w:World} {h mb:Nat} {v:Value} {l:List aM} (H:HeapAt w h v mb l) (hok:dL l) (hl:l.length≤100000) (t:aM) (ht:t.1∉ids l) (hf:bN .i64 t.1):
  Calls Tryz.prog 86 #[.pointer (some ⟨h,0,none⟩), .int .i64 t.1,eX t.2] w fun e w'=>e= .returned (.int .i64 0)∧ ∃v' l',HeapAt w' h v' mb l'∧dL l'∧l'.Perm (t::l)∧Touch (eS h v mb) w w'∧ ∀k,v'.ownBlock=some k→v.ownBlock=some k∨w.heap.size≤k:=by
 obtain⟨a,c,rfl⟩:=H.own.slice
 have c0:w.cell? ⟨h,0,none⟩=some (.slice a l.length c):=H.blk.cell 0
 have c1:w.cell? ⟨h,1,none⟩=some (.map (some mb)):=H.blk.cell 1
 have HH:=aA H
 have HO:=aA hok
 have HT:=aA ht
 have HF:=aA hf
 have HN:=aA (show(eD (ids l) t.1).isSome=false by rw[nD];simpa using ht)
 have zh:=H.blk.lt
 obtain⟨id,⟨k1,k2⟩,k3,k4⟩:=t
 unfold eX
 simp only at HT HF HN⊢
 clear H hok ht hf
 go_enter Tryz.func86,Tryz.ntmps86
 go_upto_region 7 with(at_lookup;refine dS _ lQ rfl _ _ rfl mb _ _ rfl (HH.out.map.ext z_x) _ rfl HF.out ?_;intro cc hc;rw[HN.out];clear hc)
 obtain⟨w1,hw1⟩: ∃w1,w1=w.alloc (.cells #[.int .u64 k1, .int .u64 k2, .int .i64 k3, .int .i64 k4] 181):=⟨_,rfl⟩
 have hx1:Ext w w1:=by rw[hw1];exact z_x
 have q0:w1.cell? ⟨w.heap.size,0,none⟩=some (.int .u64 k1):=by rw[hw1];simp[go_sem]
 have q1:w1.cell? ⟨w.heap.size,1,none⟩=some (.int .u64 k2):=by rw[hw1];simp[go_sem]
 have q2:w1.cell? ⟨w.heap.size,2,none⟩=some (.int .i64 k3):=by rw[hw1];simp[go_sem]
 have q3:w1.cell? ⟨w.heap.size,3,none⟩=some (.int .i64 k4):=by rw[hw1];simp[go_sem]
 have H1:=aA (HH.out.ext hx1)
 have d0:w1.cell? ⟨h,0,none⟩=some (.slice a l.length c):=H1.out.blk.cell 0
 have d1:w1.frozen? ⟨h,0,none⟩=false:=H1.out.blk.frozen 0
 have zh1:h<w1.heap.size:=H1.out.blk.lt
 have zk1:w.heap.size<w1.heap.size:=by rw[hw1];simp
 rw[←hw1]
 have HX1:=aA hx1
 clear hw1 hx1 c0 c1
 go_region_law (refine lO thingE aIf rfl _ _ rfl 0 _ _ l rfl H1.out.own (id,((k1,k2),(k3,k4))) _ _ rfl _ rfl rfl (by omega) (by omega) (by omega) ?_;intro g9 c9 w9 o9 t9 l9;have b9:=H1.out.blk.touch t9 H1.out.vh;have e9:w9.cell? ⟨h,0,none⟩=some (.slice a l.length c):=b9.cell 0;have f9:w9.frozen? ⟨h,0,none⟩=false:=b9.frozen 0;have P9:=aA (H1.out.pushed HT.out HF.out o9 t9 l9);have L9:=aA l9;clear o9 t9 l9 b9)
 all_goals
  obtain⟨w2,hw2⟩: ∃w2,w2=w9.setCell ⟨h,0,none⟩ (.slice (some ⟨g9,0,none⟩) (l.length+1) c9):=⟨_,rfl⟩
  rw[←hw2]at P9⊢
  clear hw2 e9 f9 q0 q1 q2 q3 d0 d1
  have m0:w2.cell? ⟨h,1,none⟩=some (.map (some mb)):=P9.out.1.cell 1
  go_upto_region 9 with(at_mapUpdate;refine aCc _ lQ rfl _ _ _ rfl mb _ _ rfl P9.out.2.2.1 _ rfl HF.out _ rfl (dG (by omega)) (by omega) ?_;intro w3 m3 t3;have M3:=aA m3;have T3:=aA t3;clear m3 t3)
  obtain⟨p1,p2,p3,p4,p5,p6⟩:=P9.out
  have hnd:(ids (l++[(id,((k1,k2),(k3,k4)))])).Nodup:=by
   have e:ids (l++[(id,((k1,k2),(k3,k4)))])=ids l++[id]:=by simp[ids]
   rw[e]
   exact List.nodup_append.2 ⟨HH.out.nodup,by simp,fun a ha b hb=>by simp at hb;subst hb;rintro rfl;exact HT.out ha⟩
  have hM:MapIn Tryz.prog KM w3 mb (eD (ids (l++[(id,((k1,k2),(k3,k4)))]))) (l.length+1):=by
   have:=M3.out.congr (aJv (t:=(id,((k1,k2),(k3,k4)))) HH.out.nodup HT.out)
   rw[HN.out]at this
   simpa using this
  have H3:=aA (show HeapAt w3 h (.slice (some ⟨g9,0,none⟩) (l.length+1) c9) mb (l++[(id,((k1,k2),(k3,k4)))]) from⟨p1.touch T3.out HH.out.hm,p2.touch T3.out (fun k hk=>by simp only[Value.ownBlock,Option.some.injEq]at hk;subst hk;exact p5),by simpa using hM,hnd,fun t ht=>by
   rcases List.mem_append.1 ht with ht|ht
   ·exact HH.out.wf t ht
   simp at ht;subst ht;exact HF.out⟩)
  have P6:=aA p6
  have hr:=aA (aHc HO.out (id,((k1,k2),(k3,k4))))
  clear p1 p2 p3 p4 p5 p6 hnd hM P9 m0
  go_wp2_with (go_at_call 145;refine(vZ H3.out (by simp) (by simp;omega) hr.out).mono ?_;rintro e w4 ⟨rfl,h4⟩;have H4:=aA h4;clear h4)
  go_ret
  obtain⟨l',a1,a2,a3,a4⟩:=H4.out
  refine⟨rfl,_,l',a1,a4,a3.trans List.perm_append_comm,?_,?_⟩
  ·refine(((Touch.of_ext HX1.out).trans (P6.out)).trans (T3.out.mono (fun k _ hk=> .inr (.inr hk)))).after a2 ?_
   rintro k hk (rfl|hk2|rfl)
   ·exact .inl rfl
   ·simp only[Value.ownBlock,Option.some.injEq]at hk2
    subst hk2
    rcases L9.out with h9|h9
    ·exact .inr (.inl h9)
    have:=HX1.out.size;omega
   exact .inr (.inr rfl)
  intro k hk
  simp only[Value.ownBlock,Option.some.injEq]at hk
  subst hk
  rcases L9.out with h9|h9
  ·exact .inl h9
  exact .inr (Nat.le_trans HX1.out.size h9)
theorem aLf (a b:fN) (w:World):Calls Tryz.prog 146 #[.agg #[.int .u64 a.1.1, .int .u64 a.1.2, .int .i64 a.2.1, .int .i64 a.2.2], .agg #[.int .u64 b.1.1, .int .u64 b.1.2, .int .i64 b.2.1, .int .i64 b.2.2]] w fun e w'=>e= .returned (.bool (bP a b))∧Ext w w':=vY a b w
theorem aDe {l:List aM} {i:Nat} (h:i<l.length):tat l i∈l:=by rw[dP h];exact List.getElem_mem h
theorem aLd {l:List aM} {i:Nat} (hi:i<l.length) {t:aM} (ht:t.1=(tat l i).1):ids (l.set i t)=ids l:=by
 unfold ids
 apply List.ext_getElem?
 intro j
 rw[List.getElem?_map,List.getElem?_map,List.getElem?_set]
 by_cases e:i=j
 ·subst e
  simp[hi,ht,dP hi]
 simp[e]
theorem aF0 {w:World} {base:Nat} {e:TypeId} {g n c:Nat} {l:List aM} (h:Own thingE w base e (.slice (some ⟨g,0,none⟩) n c) l) {i:Nat} (hi:i<l.length) (t:aM) (ht:t.1=(tat l i).1):
  Own thingE (fD w g (i*5+1) [.int .u64 t.2.1.1, .int .u64 t.2.1.2, .int .i64 t.2.2.1, .int .i64 t.2.2.2]) base e (.slice (some ⟨g,0,none⟩) n c) (l.set i t):=by
 obtain⟨a',c',e'⟩:=h.slice
 have en:n=l.length:=by injection e'
 subst en
 unfold Own at h⊢
 rw[List.length_set,yX thingE l i t hi]
 have e1:(l.flatMap thingE.cells)[i*5]? =some (.int .i64 t.1):=cM thingE l i (tat l i) (by rw[zG hi,dP hi]) 0 _ (by rw[ht];rfl)
 have e2:(l.flatMap thingE.cells).set (i*5) (.int .i64 t.1)=l.flatMap thingE.cells:=by
  obtain⟨h1,h2⟩:=zJ e1
  rw[←h2,List.set_getElem_self]
 show World.ownsRow _ _ _ _ _ _ (mC ((l.flatMap thingE.cells).set (i*5) (.int .i64 t.1)) (i*5+1) [.int .u64 t.2.1.1, .int .u64 t.2.1.2, .int .i64 t.2.2.1, .int .i64 t.2.2.2])
 rw[e2]
 exact rY _ _ _ _ h
set_option maxRecDepth 100000 in
set_option maxHeartbeats 2000000 in
theorem aGe {w:World} {h mb:Nat} {v:Value} {l:List aM} (H:HeapAt w h v mb l) (hok:dL l) (hl:l.length≤100000) {i:Nat} (hi:i<l.length) (t:aM) (hid:t.1=(tat l i).1) (hlt:bP t.2 (tat l i).2=true):
  Calls Tryz.prog 87 #[.pointer (some ⟨h,0,none⟩), .int .i64 t.1,eX t.2] w fun e w'=>e= .returned (.int .i64 0)∧xS w h v mb (l.set i t) w':=by
 obtain⟨g,c,rfl⟩: ∃g c,v= .slice (some ⟨g,0,none⟩) l.length c:=by
  rcases H.own.2 with⟨_,hn⟩|⟨g,cap,cur,hv,_⟩
  ·omega
  exact⟨g,cap,hv⟩
 have c0:w.cell? ⟨h,0,none⟩=some (.slice (some ⟨g,0,none⟩) l.length c):=H.blk.cell 0
 have c1:w.cell? ⟨h,1,none⟩=some (.map (some mb)):=H.blk.cell 1
 have HH:=aA H
 have HF:Hid (bN .i64 t.1):=aA (by rw[hid];exact H.wf _ (aDe hi))
 have HP:=aA (show eD (ids l) t.1=some (i:Int) by rw[hid];exact oH H.nodup (dH hi))
 have HN:=aA (show(eD (ids l) t.1).isSome=true by rw[HP.out];rfl)
 have HR:=aA (show kR (l.set i t) i from aEb hok hi (aE6 hlt))
 have HLs:=aA (fun w=>aLf t.2 (tat l i).2 w)
 rw[hlt]at HLs
 have HO:=aA (fun(w':World) (o:Own thingE w' 0 245 (.slice (some ⟨g,0,none⟩) l.length c) l)=>aF0 o hi t hid)
 have HI:=aA (aLd hi hid)
 obtain⟨⟨a0,a1,a2,a3,a4⟩,fa0,fa1,fa2,fa3,fa4⟩:=cR H.own hi
 have zh:=H.blk.lt
 have zg:g<w.heap.size:=H.foot_lt (.inr (.inl rfl))
 have gh:g≠h:=fun e=>H.vh (by rw[e];rfl)
 have gm:g≠mb:=fun e=>H.vm (by rw[e];rfl)
 have hil:(i:Int)<(l.length:Int):=by omega
 obtain⟨id,⟨k1,k2⟩,k3,k4⟩:=t
 generalize tat l i=A at *
 obtain⟨A0,⟨A1,A2⟩,A3,A4⟩:=A
 unfold eX
 simp only at HF HN HP HLs a0 a1 a2 a3 a4 hid⊢
 have HID:=aA hid
 clear H hok hid hlt
 go_enter Tryz.func87,Tryz.ntmps87
 go_upto_region 6 with(at_lookup;refine dS _ lQ rfl _ _ rfl mb _ _ rfl (HH.out.map.ext z_x) _ rfl HF.out ?_;intro cc hc;rw[HN.out];have ec:=hc _ HP.out;subst ec;clear hc)
 obtain⟨w1,hw1⟩: ∃w1,w1=w.alloc (.cells #[.int .u64 k1, .int .u64 k2, .int .i64 k3, .int .i64 k4] 181):=⟨_,rfl⟩
 have hx1:Ext w w1:=by rw[hw1];exact z_x
 have q0:w1.cell? ⟨w.heap.size,0,none⟩=some (.int .u64 k1):=by rw[hw1];simp[go_sem]
 have q1:w1.cell? ⟨w.heap.size,1,none⟩=some (.int .u64 k2):=by rw[hw1];simp[go_sem]
 have q2:w1.cell? ⟨w.heap.size,2,none⟩=some (.int .i64 k3):=by rw[hw1];simp[go_sem]
 have q3:w1.cell? ⟨w.heap.size,3,none⟩=some (.int .i64 k4):=by rw[hw1];simp[go_sem]
 have zk1:w.heap.size<w1.heap.size:=by rw[hw1];simp
 rw[←hw1]
 have H1:=aA (HH.out.ext hx1)
 have HX1:=aA hx1
 have d0:w1.cell? ⟨h,0,none⟩=some (.slice (some ⟨g,0,none⟩) l.length c):=H1.out.blk.cell 0
 have zh1:h<w1.heap.size:=H1.out.blk.lt
 have zg1:g<w1.heap.size:=H1.out.foot_lt (.inr (.inl rfl))
 have b1:=(hx1.cell (p:=⟨g,i*5+1,none⟩) zg).trans a1
 have b2:=(hx1.cell (p:=⟨g,i*5+2,none⟩) zg).trans a2
 have b3:=(hx1.cell (p:=⟨g,i*5+3,none⟩) zg).trans a3
 have b4:=(hx1.cell (p:=⟨g,i*5+4,none⟩) zg).trans a4
 clear hw1 hx1 c0 c1 a0 a1 a2 a3 a4 fa0 fa1 fa2 fa3 fa4
 go_wp2_with fail
 go_region_held3 (fun W=>(∀b o,b<w1.heap.size→W.cell? ⟨b,o,none⟩=w1.cell? ⟨b,o,none⟩)∧Ext w1 W) (first|with_reducible exact bG _|exact aI z_x)
  (first|(go_at_call 146;refine(HLs.out _).mono ?_;rintro e w3 ⟨rfl,hb3⟩))
 rename_i hS
 have hx3:Ext w1 w3:=hS.2
 clear hS d0 b1 b2 b3 b4
 have H3:=aA (H1.out.ext hx3)
 have d0:w3.cell? ⟨h,0,none⟩=some (.slice (some ⟨g,0,none⟩) l.length c):=H3.out.blk.cell 0
 have e0:=(hx3.cell (p:=⟨w.heap.size,0,none⟩) zk1).trans q0
 have e1:=(hx3.cell (p:=⟨w.heap.size,1,none⟩) zk1).trans q1
 have e2:=(hx3.cell (p:=⟨w.heap.size,2,none⟩) zk1).trans q2
 have e3:=(hx3.cell (p:=⟨w.heap.size,3,none⟩) zk1).trans q3
 have HX3:=aA (HX1.out.trans hx3)
 obtain⟨⟨_,a1,a2,a3,a4⟩,_,fa1,fa2,fa3,fa4⟩:=cR H3.out.own hi
 have HO3:=aA (HO.out w3 H3.out.own)
 clear q0 q1 q2 q3 hb3 hx3
 go_wp2_with fail
 go_region
 obtain⟨w5,hw5⟩: ∃w5,w5=fD w3 g (i*5+1) [.int .u64 k1, .int .u64 k2, .int .i64 k3, .int .i64 k4]:=⟨_,rfl⟩
 have t5:Touch (fun k=>k=g) w3 w5:=by rw[hw5];exact cY _ _ _ _
 have O5:=HO3.out
 rw[show fD w3 g (i*5+1) [.int .u64 (id,((k1,k2),(k3,k4))).2.1.1, .int .u64 (id,((k1,k2),(k3,k4))).2.1.2, .int .i64 (id,((k1,k2),(k3,k4))).2.2.1, .int .i64 (id,((k1,k2),(k3,k4))).2.2.2]=w5 from hw5.symm]at O5
 have HW:=aA (show _=w5 from hw5.symm)
 have H5:=aA (show HeapAt w5 h (.slice (some ⟨g,0,none⟩) l.length c) mb (l.set i (id,((k1,k2),(k3,k4)))) from⟨H3.out.blk.touch t5 (fun e=>gh e.symm),O5,by rw[HI.out,List.length_set];exact H3.out.map.touch t5 (fun e=>gm e.symm),by rw[HI.out];exact H3.out.nodup,fun t ht=>by
  rcases List.mem_or_eq_of_mem_set ht with ht|rfl
  ·exact H3.out.wf t ht
  exact HF.out⟩)
 have T5:=aA t5
 rw[show(((w3.setCell ⟨g,i*5+1,none⟩ (.int .u64 k1)).setCell ⟨g,i*5+2,none⟩ (.int .u64 k2)).setCell ⟨g,i*5+3,none⟩ (.int .i64 k3)).setCell ⟨g,i*5+4,none⟩ (.int .i64 k4)=w5 from HW.out]
 have H6:=aA (show HeapAt w5.drew h (.slice (some ⟨g,0,none⟩) l.length c) mb (l.set i (id,((k1,k2),(k3,k4)))) from H5.out.ext (Ext.refl _).drew)
 clear hw5 HW O5 t5 HO HO3 H5 a1 a2 a3 a4 fa1 fa2 fa3 fa4 d0 e0 e1 e2 e3
 obtain⟨w6,hw6⟩: ∃w6,w6=w5.drew:=⟨_,rfl⟩
 have T6:=aA (show Touch (eS h (.slice (some ⟨g,0,none⟩) l.length c) mb) w w6 by rw[hw6];exact((Touch.of_ext HX3.out).trans (T5.out.mono (fun k _ hk=> .inr (.inl (by rw[hk];rfl))))).drew)
 rw[←hw6]at H6⊢
 clear hw6
 obtain⟨n,hn⟩: ∃n,l.length=n:=⟨_,rfl⟩
 have hr:=vZ H6.out (i:=i) (by rw[List.length_set];omega) (by rw[List.length_set];omega) HR.out
 have hr:=aA hr
 go_wp2_with (go_at_call 145;refine(hr.out).mono ?_;rintro e w4 ⟨rfl,h4⟩;have H4:=aA h4;clear h4)
 go_ret
 obtain⟨l',x1,x2,x3,x4⟩:=H4.out
 exact⟨rfl,l',x1,T6.out.trans x2,x3,x4⟩
theorem MapIn.drop_run {P:Program} {K:MapK} {w:World} {b N:Nat} {f:Int→Option Int} (O:K.Ok P) (h:MapIn P K w b f N) {k:Int} (hk:bN K.qk k) (hin:(f k).isSome=true) (ty:TypeId):
  ∃w',(Builtin.delete_ #[K.tm,K.tk] ty #[.map (some b), .int K.qk k]).run P w= .ok (.tuple #[]) w'∧MapIn P K w' b (del f k) (N-1)∧Touch (fun j=>j=b) w w':=by
 obtain⟨D,h1,h2,h3⟩:=h
 have KK:=Maps.int_keyed O.key
 have tidy:=h1.tidy KK
 obtain⟨w',hrun,o',t'⟩:=h1.drop KK O.under (Maps.keyOf_int_mk O.key hk) ty
 have hsz:Maps.size (D.del (.int K.qk k))=N-1:=by
  have:=Maps.size_del (k:=Lit.int K.qk k) tidy
  rw[(h3 k).1,hin,h2]at this
  simp at this
  omega
 refine⟨w',hrun,⟨_,hsz▸nP o',hsz,fun y=> ?_⟩,eZ t' rfl⟩
 unfold del
 by_cases hy:y=k
 ·subst hy
  rw[Maps.has_del_same]
  simp only[if_true]
  exact⟨rfl,fun c hc=>by cases hc⟩
 have hne:(Lit.int K.qk y)≠ .int K.qk k:=by simpa using hy
 rw[Maps.has_del_other hne]
 simp only[if_neg hy]
 exact⟨(h3 y).1,fun c hc=>by rw[Maps.atKey_del_other hne];exact(h3 y).2 c hc⟩
theorem Own.popped {w:World} {base:Nat} {e:TypeId} {g n c:Nat} {l:List aM} (h:Own thingE w base e (.slice (some ⟨g,0,none⟩) (n+1) c) l) (hl:l.length=n+1):Own thingE w base e (.slice (some ⟨g,0,none⟩) n c) (l.take n):=by
 have e1:l=l.take n++l.drop n:=(List.take_append_drop n l).symm
 unfold Own at h⊢
 rw[hl]at h
 rw[e1,List.flatMap_append]at h
 have:(l.take n).length=n:=by rw[List.length_take];omega
 rw[this]
 exact ownsRow_pop (by rw[Enc.flat_len,this]) h
theorem mL (l:List aM) (n:Nat):ids (l.take n)=(ids l).take n:=by simp[ids,List.map_take]
theorem aLn {l:List aM} {n:Nat} (hn:(ids l).Nodup) (hl:l.length=n+1) (x:Int):del (eD (ids l)) (tat l n).1 x=eD (ids (l.take n)) x:=by
 have hlast:(ids l)[n]? =some (tat l n).1:=dH (by omega)
 have hne:(tat l n).1∉ids (l.take n):=by
  rw[mL]
  intro hm
  obtain⟨j,hj⟩:=List.mem_iff_getElem?.1 hm
  rw[List.getElem?_take]at hj
  split at hj
  ·obtain⟨a1,a2⟩:=zJ hj
   obtain⟨b1,b2⟩:=zJ hlast
   have:=(List.getElem_inj (h₀:=a1) (h₁:=b1) hn).1 (by rw[a2,b2])
   omega
  cases hj
 refine sL (by rw[mL];exact hn.sublist (List.take_sublist _ _)) (fun i y hy=> ?_) (fun y hy=> ?_) x
 ·have hy2:=hy
  rw[mL,List.getElem?_take]at hy2
  split at hy2
  ·unfold del
   rw[if_neg (by rintro rfl;exact hne (List.mem_of_getElem? hy))]
   exact oH hn hy2
  cases hy2
 unfold del
 split
 ·rfl
 rename_i hyn
 refine nC fun hm=>hy ?_
 rw[mL]
 obtain⟨j,hj⟩:=List.mem_iff_getElem?.1 hm
 obtain⟨a1,a2⟩:=zJ hj
 rw[dI]at a1
 refine List.mem_iff_getElem?.2 ⟨j,?_⟩
 rw[List.getElem?_take]
 by_cases e:j<n
 ·rw[if_pos e];exact hj
 obtain rfl:j=n:=by omega
 rw[hlast]at hj
 exact absurd (Option.some.inj hj).symm hyn
def aF9 (w:World) (h mb:Nat) (v:Value) (l:List aM) (w':World):Prop:=
 ∃v' l',HeapAt w' h v' mb l'∧dL l'∧(tat l 0::l').Perm l∧Touch (eS h v mb) w w'∧v'.ownBlock=v.ownBlock
theorem aGf {w:World} {h mb:Nat} {v:Value} (H:HeapAt w h v mb []):Calls Tryz.prog 89 #[.pointer (some ⟨h,0,none⟩)] w fun e w'=>e= .returned (.tuple #[.int .i64 0, .agg #[.int .u64 0, .int .u64 0, .int .i64 0, .int .i64 0], .bool false])∧Ext w w':=by
 have HH:=aA H
 clear H
 go_enter Tryz.func89,Tryz.ntmps89
 go_wp2_with (go_at_call 88;refine(sG (HH.out.ext z_x)).mono ?_;rintro e w1 ⟨rfl,rfl⟩)
 exact bodyPost_ret (v:= .tuple #[.int .i64 0, .agg #[.int .u64 0, .int .u64 0, .int .i64 0, .int .i64 0], .bool false]) (by simp[results,Tryz.results89,go_sem, *]) rfl ⟨rfl,z_x⟩
set_option maxRecDepth 100000 in
set_option maxHeartbeats 4000000 in
theorem aLb {w:World} {h mb:Nat} {v:Value} {l:List aM} (H:HeapAt w h v mb l) (hok:dL l) (hl:l.length≤100000) (h0:0<l.length):
  Calls Tryz.prog 89 #[.pointer (some ⟨h,0,none⟩)] w fun e w'=>e= .returned (.tuple #[.int .i64 (tat l 0).1,eX (tat l 0).2, .bool true])∧aF9 w h mb v l w':=by
 obtain⟨g,c,rfl⟩: ∃g c,v= .slice (some ⟨g,0,none⟩) l.length c:=by
  rcases H.own.2 with⟨_,hn⟩|⟨g,cap,cur,hv,_⟩
  ·omega
  exact⟨g,cap,hv⟩
 obtain⟨n,hn⟩: ∃n,l.length=n+1:=⟨l.length-1,by omega⟩
 obtain⟨hnc,hnc2⟩:n≤c∧c≤maxLen:=by
  rcases H.own.2 with⟨_,hz⟩|⟨g',cap,cur,hv,_,_,h1,h2,_⟩
  ·omega
  cases hv;exact⟨by omega,h2⟩
 have hnc3:(n:Int)≤(c:Int):=by omega
 have hle:l.length≤1000000:=by omega
 have HS:=aA (fun(w':World) (X:HeapAt w' h (.slice (some ⟨g,0,none⟩) l.length c) mb l)=>pG X (i:=0) (k:=n) h0 (by omega) hle)
 obtain⟨⟨a0,a1,a2,a3,a4⟩,_⟩:=cR H.own h0
 have c0:w.cell? ⟨h,0,none⟩=some (.slice (some ⟨g,0,none⟩) l.length c):=H.blk.cell 0
 have zh:=H.blk.lt
 have zg:g<w.heap.size:=H.foot_lt (.inr (.inl rfl))
 have HL:=aA (fun(w':World) (X:Ext w w')=>sG (H.ext X))
 rw[hn]at HS c0 HL H⊢
 have HH:=aA H
 have HN:=aA hn
 have HO:=aA hok
 have HF:=aA (H.wf _ (aDe h0))
 simp only[Nat.zero_mul,Nat.zero_add]at a0 a1 a2 a3 a4
 obtain⟨A,hA⟩: ∃A,tat l 0=A:=⟨_,rfl⟩
 rw[hA]at a0 a1 a2 a3 a4 HF⊢
 have HAA:=aA hA
 clear hA
 clear H hok hn
 go_enter Tryz.func89,Tryz.ntmps89
 go_wp2_with (go_at_call 88;refine(HL.out _ z_x).mono ?_;rintro e w1 ⟨rfl,rfl⟩)
 obtain⟨w1,hw1⟩: ∃w1,w1=w.alloc (.cells #[.int .u64 0, .int .u64 0, .int .i64 0, .int .i64 0] 181):=⟨_,rfl⟩
 have hx1:Ext w w1:=by rw[hw1];exact z_x
 have hkb:w1.heap.size=w.heap.size+1:=by rw[hw1];simp
 have K1:=aA (show Blk w1 w.heap.size 181 #[.int .u64 0, .int .u64 0, .int .i64 0, .int .i64 0] by rw[hw1];exact Blk.new _ _ _)
 rw[←hw1]
 have H1:=aA (HH.out.ext hx1)
 have HX1:=aA hx1
 have d0:w1.cell? ⟨h,0,none⟩=some (.slice (some ⟨g,0,none⟩) (n+1) c):=H1.out.blk.cell 0
 have zh1:h<w1.heap.size:=by omega
 have zg1:g<w1.heap.size:=by omega
 have b0:=(hx1.cell (p:=⟨g,0,none⟩) zg).trans a0
 have b1:=(hx1.cell (p:=⟨g,1,none⟩) zg).trans a1
 have b2:=(hx1.cell (p:=⟨g,2,none⟩) zg).trans a2
 have b3:=(hx1.cell (p:=⟨g,3,none⟩) zg).trans a3
 have b4:=(hx1.cell (p:=⟨g,4,none⟩) zg).trans a4
 have hpn:(0:Int)<(n:Int)+1:=by omega
 have hn2:n≤100000:=by have:=HN.out;omega
 clear hw1 hx1 c0 a0 a1 a2 a3 a4
 go_region
 obtain⟨w2,hw2⟩: ∃w2,w2=(w1.alloc (.cells #[.int .i64 A.1, .int .u64 A.2.1.1, .int .u64 A.2.1.2, .int .i64 A.2.2.1, .int .i64 A.2.2.2] 245)).drew:=⟨_,rfl⟩
 have hx2:Ext w1 w2:=by rw[hw2];exact z_x
 have F2:=aA (show Blk w2 (w.heap.size+1) 245 #[.int .i64 A.1, .int .u64 A.2.1.1, .int .u64 A.2.1.2, .int .i64 A.2.2.1, .int .i64 A.2.2.2] by rw[hw2,←hkb];exact Blk.new w1 _ _)
 have K2:=aA (K1.out.ext hx2)
 have H2:=aA (H1.out.ext hx2)
 have HX2:=aA (HX1.out.trans hx2)
 rw[←hw2]
 clear hw2 hx2 b0 b1 b2 b3 b4 d0 K1 HX1 zh1 zg1 hkb
 go_upto_region 5 with(go_at_call 147;refine(HS.out _ H2.out).mono ?_;rintro e w3 ⟨rfl,h3,t3⟩;have H3:=aA h3;have T3:=aA t3;clear h3 t3)
 have nK: ¬eS h (.slice (some ⟨g,0,none⟩) (n+1) c) mb w.heap.size:=fun x=>by have:=HH.out.foot_lt x;omega
 have nF: ¬eS h (.slice (some ⟨g,0,none⟩) (n+1) c) mb (w.heap.size+1):=fun x=>by have:=HH.out.foot_lt x;omega
 have hsl:(swp l 0 n).length=n+1:=by rw[gX];exact HN.out
 have d0:w3.cell? ⟨h,0,none⟩=some (.slice (some ⟨g,0,none⟩) (n+1) c):=H3.out.blk.cell 0
 have d1:w3.frozen? ⟨h,0,none⟩=false:=H3.out.blk.frozen 0
 obtain⟨w4,hw4⟩: ∃w4,w4=w3.setCell ⟨h,0,none⟩ (.slice (some ⟨g,0,none⟩) n c):=⟨_,rfl⟩
 have t4:Touch (fun k=>k=h) w3 w4:=by rw[hw4];exact(Touch.refl (fun k=>k=h) w3).setCell (p:=⟨h,0,none⟩) (.inl rfl) _
 have gh:g≠h:=fun e=>HH.out.vh (by rw[e];rfl)
 have gm:g≠mb:=fun e=>HH.out.vm (by rw[e];rfl)
 have B4:=aA (show Blk w4 h 179 #[.slice (some ⟨g,0,none⟩) n c, .map (some mb)] by rw[hw4];simpa using H3.out.blk.set_ 0 (.slice (some ⟨g,0,none⟩) n c))
 have O4:=aA ((H3.out.own.popped hsl).touch t4 (fun k hk=>by simp only[Value.ownBlock,Option.some.injEq]at hk;subst hk;exact gh))
 have hlast:(tat (swp l 0 n) n).1=A.1:=by rw[jD (by have:=HN.out;omega) (by have:=HN.out;omega),if_pos rfl,HAA.out]
 have M4:=H3.out.map.touch t4 (fun e=>HH.out.hm e.symm)
 rw[hsl]at M4
 obtain⟨w5,r5,m5,t5⟩:=M4.drew.drop_run lQ (k:=A.1) HF.out (by rw[←hlast,nD];simpa using List.mem_of_getElem? (dH (l:=swp l 0 n) (i:=n) (by omega))) 0
 simp only[KM]at r5
 have F4:=aA (F2.out.touch (T3.out.trans (t4.mono (fun k _ hk=> .inl hk))) nF)
 have K4:=aA (K2.out.touch (T3.out.trans (t4.mono (fun k _ hk=> .inl hk))) nK)
 have T4:=aA t4
 have T5:=aA t5
 have M5:=aA m5
 clear t4 t5 m5 M4
 subst hw4
 go_wp2_with fail
 have e1:(w3.setCell ⟨h,0,none⟩ (.slice (some ⟨g,0,none⟩) n c)).cell? ⟨h,1,none⟩=some (.map (some mb)):=B4.out.cell 1
 have e2:(w3.setCell ⟨h,0,none⟩ (.slice (some ⟨g,0,none⟩) n c)).cell? ⟨w.heap.size+1,0,none⟩=some (.int .i64 A.1):=F4.out.cell 0
 clear d0 d1
 go_region
 have t45:Touch (fun j=>j=mb) (w3.setCell ⟨h,0,none⟩ (.slice (some ⟨g,0,none⟩) n c)) w5:=((Touch.refl _ _).drew).trans T5.out
 have T5':Touch (eS h (.slice (some ⟨g,0,none⟩) (n+1) c) mb) w w5:=by
  have x1:Touch (eS h (.slice (some ⟨g,0,none⟩) (n+1) c) mb) w w3:=(Touch.of_ext HX2.out).trans T3.out
  exact(x1.trans (T4.out.mono (fun k _ hk=>Or.inl hk))).trans (t45.mono (fun k _ hk=>Or.inr (Or.inr hk)))
 have F5:=aA (F4.out.touch t45 (fun e=>nF (Or.inr (Or.inr e))))
 have K5:=aA (K4.out.touch t45 (fun e=>nK (Or.inr (Or.inr e))))
 have nd:(ids (swp l 0 n)).Nodup:=H3.out.nodup
 have H5:=aA (show HeapAt w5 h (.slice (some ⟨g,0,none⟩) n c) mb ((swp l 0 n).take n) from⟨B4.out.touch t45 (fun e=>HH.out.hm e),O4.out.touch t45 (fun k hk=>by simp only[Value.ownBlock,Option.some.injEq]at hk;subst hk;exact gm),by
   have:=M5.out.congr (g:=eD (ids ((swp l 0 n).take n))) (fun x=>by rw[←hlast];exact aLn nd hsl x)
   rw[List.length_take,hsl,Nat.min_eq_left (Nat.le_succ n)]
   exact this,by rw[mL];exact nd.sublist (List.take_sublist _ _),fun t ht=>H3.out.wf t (List.mem_of_mem_take ht)⟩)
 have HSk:=aA (aGg H5.out (by rw[List.length_take,hsl];omega) (aJu HO.out n HN.out))
 have T5h:=aA T5'
 clear H3 T3 T4 T5 M5 B4 O4 F4 K4 F2 K2 H2 HX2 t45 e1 e2 r5 T5' hlast
 go_wp2_with (go_at_call 148;refine(HSk.out).mono ?_;rintro e w6 ⟨rfl,h6⟩;have H6:=aA h6;clear h6)
 obtain⟨l',x1,x2,x3,x4⟩:=H6.out
 have nK': ¬eS h (.slice (some ⟨g,0,none⟩) n c) mb w.heap.size:=nK
 have nF': ¬eS h (.slice (some ⟨g,0,none⟩) n c) mb (w.heap.size+1):=nF
 have F6:=F5.out.touch x2 nF'
 have K6:=K5.out.touch x2 nK'
 have f0:w6.cell? ⟨w.heap.size+1,0,none⟩=some (.int .i64 A.1):=F6.cell 0
 have f1:w6.cell? ⟨w.heap.size+1,1,none⟩=some (.int .u64 A.2.1.1):=F6.cell 1
 have f2:w6.cell? ⟨w.heap.size+1,2,none⟩=some (.int .u64 A.2.1.2):=F6.cell 2
 have f3:w6.cell? ⟨w.heap.size+1,3,none⟩=some (.int .i64 A.2.2.1):=F6.cell 3
 have f4:w6.cell? ⟨w.heap.size+1,4,none⟩=some (.int .i64 A.2.2.2):=F6.cell 4
 have g0:w6.cell? ⟨w.heap.size,0,none⟩=some (.int .u64 0):=K6.cell 0
 have g1:w6.cell? ⟨w.heap.size,1,none⟩=some (.int .u64 0):=K6.cell 1
 have g2:w6.cell? ⟨w.heap.size,2,none⟩=some (.int .i64 0):=K6.cell 2
 have g3:w6.cell? ⟨w.heap.size,3,none⟩=some (.int .i64 0):=K6.cell 3
 have k0:=K6.frozen 0
 have k1:=K6.frozen 1
 have k2:=K6.frozen 2
 have k3:=K6.frozen 3
 have X1:=aA x1
 have X2:=aA x2
 have X3:=aA x3
 have X4:=aA x4
 clear F6 K6 x1 x2 x3 x4 H6 F5 K5
 go_region
 obtain⟨w7,hw7⟩: ∃w7,w7=((((w6.setCell ⟨w.heap.size,0,none⟩ (.int .u64 A.2.1.1)).setCell ⟨w.heap.size,1,none⟩ (.int .u64 A.2.1.2)).setCell ⟨w.heap.size,2,none⟩ (.int .i64 A.2.2.1)).setCell ⟨w.heap.size,3,none⟩ (.int .i64 A.2.2.2)).drew:=⟨_,rfl⟩
 have t7:Touch (fun k=>k=w.heap.size) w6 w7:=by
  have:=cY w.heap.size [.int .u64 A.2.1.1, .int .u64 A.2.1.2, .int .i64 A.2.2.1, .int .i64 A.2.2.2] w6 0
  rw[hw7];exact this.drew
 have y0:w7.cell? ⟨w.heap.size,0,none⟩=some (.int .u64 A.2.1.1):=by rw[hw7];simp[go_sem, *]
 have y1:w7.cell? ⟨w.heap.size,1,none⟩=some (.int .u64 A.2.1.2):=by rw[hw7];simp[go_sem, *]
 have y2:w7.cell? ⟨w.heap.size,2,none⟩=some (.int .i64 A.2.2.1):=by rw[hw7];simp[go_sem, *]
 have y3:w7.cell? ⟨w.heap.size,3,none⟩=some (.int .i64 A.2.2.2):=by rw[hw7];simp[go_sem, *]
 rw[←hw7]
 have hfin:aF9 w h mb (.slice (some ⟨g,0,none⟩) (n+1) c) l w7:=by
  refine⟨_,l',X1.out.touch t7 (fun k hk e=>nK (by rw[←e];exact hk)),X4.out,?_,?_,rfl⟩
  ·have hm:(tat l 0::(swp l 0 n).take n).Perm l:=by
    have hlt:n<(swp l 0 n).length:=by omega
    have e1:swp l 0 n=(swp l 0 n).take n++[tat l 0]:=by
     have:tat (swp l 0 n) n=tat l 0:=by rw[jD (by omega) (by have:=HN.out;omega),if_pos rfl]
     rw[←this,dP hlt]
     have h9:=List.take_append_getElem hlt
     rw[h9,List.take_of_length_le (by omega)]
    have e2:(swp l 0 n).Perm l:=iS h0 (by have:=HN.out;omega)
    rw[e1]at e2
    exact(List.perm_append_comm (l₁:=[tat l 0])).trans e2
   exact(X3.out.cons _).trans hm
  exact((T5h.out.trans X2.out).after t7 (fun k hk e=>by omega))
 have HFI:=aA hfin
 clear hw7 f0 f1 f2 f3 f4 g0 g1 g2 g3 k0 k1 k2 k3 hfin
 go_wp2_with fail
 exact bodyPost_ret (v:= .tuple #[.int .i64 A.1, .agg #[.int .u64 A.2.1.1, .int .u64 A.2.1.2, .int .i64 A.2.2.1, .int .i64 A.2.2.2], .bool true]) (by simp[results,Tryz.results89,go_sem, *]) rfl ⟨rfl,HFI.out⟩
variable {S:Nat→Prop} {w:World} {h:Nat} {l:List aM}
theorem pA (hS: ∀k,w.heap.size≤k→S k) (H:HeapIs S w h l) (hl:l.length≤100000) (t:aM) (ht:t.1∉ids l) (hf:bN .i64 t.1):
  Calls Tryz.prog 86 #[.pointer (some ⟨h,0,none⟩), .int .i64 t.1,eX t.2] w fun e w'=>e= .returned (.int .i64 0)∧ ∃l',HeapIs S w' h l'∧l'.Perm (t::l)∧Touch S w w':=by
 obtain⟨v,mb,h1,h2,h3⟩:=H
 refine(aJ8 h1 h2 hl t ht hf).mono ?_
 rintro e w' ⟨rfl,v',l',x1,x2,x3,x4,x5⟩
 refine⟨rfl,l',⟨v',mb,x1,x2,fun k hk=> ?_⟩,x3,x4.mono fun k _ hk=>h3 k hk⟩
 rcases hk with hk|hk|hk
 ·exact h3 k (.inl hk)
 ·rcases x5 k hk with hk|hk
  ·exact h3 k (.inr (.inl hk))
  exact hS k hk
 exact h3 k (.inr (.inr hk))
theorem qB (H:HeapIs S w h l) (hl:l.length≤100000) {i:Nat} (hi:i<l.length) (t:aM) (hid:t.1=(tat l i).1) (hlt:bP t.2 (tat l i).2=true):
  Calls Tryz.prog 87 #[.pointer (some ⟨h,0,none⟩), .int .i64 t.1,eX t.2] w fun e w'=>e= .returned (.int .i64 0)∧ ∃l',HeapIs S w' h l'∧l'.Perm (l.set i t)∧Touch S w w':=by
 obtain⟨v,mb,h1,h2,h3⟩:=H
 refine(aGe h1 h2 hl hi t hid hlt).mono ?_
 rintro e w' ⟨rfl,l',x1,x2,x3,x4⟩
 exact⟨rfl,l',⟨v,mb,x1,x4,h3⟩,x3,x2.mono fun k _ hk=>h3 k hk⟩
theorem uO (H:HeapIs S w h l) (hl:l.length≤100000) (h0:0<l.length):
  Calls Tryz.prog 89 #[.pointer (some ⟨h,0,none⟩)] w fun e w'=>e= .returned (.tuple #[.int .i64 (tat l 0).1,eX (tat l 0).2, .bool true])∧ ∃l',HeapIs S w' h l'∧(tat l 0::l').Perm l∧Touch S w w':=by
 obtain⟨v,mb,h1,h2,h3⟩:=H
 refine(aLb h1 h2 hl h0).mono ?_
 rintro e w' ⟨rfl,v',l',x1,x2,x3,x4,x5⟩
 exact⟨rfl,l',⟨v',mb,x1,x2,fun k hk=>h3 k (hk.imp id (Or.imp (fun z=>by rw[←x5];exact z) id))⟩,x3,x4.mono fun k _ hk=>h3 k hk⟩
theorem aJ7 (H:HeapIs S w h []):Calls Tryz.prog 89 #[.pointer (some ⟨h,0,none⟩)] w fun e w'=>e= .returned (.tuple #[.int .i64 0, .agg #[.int .u64 0, .int .u64 0, .int .i64 0, .int .i64 0], .bool false])∧Ext w w':=by
 obtain⟨v,mb,h1,_,_⟩:=H
 exact aGf h1
theorem HeapIs.ok (H:HeapIs S w h l):dL l:=by obtain⟨_,_,_,h2,_⟩:=H;exact h2
end Go.Proofs.YtaellcgglldjaaaGreat

