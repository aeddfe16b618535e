/- Part of a proof: SortI. -/
import Derived.Test.YtaellcgglldjaaaGreatHq02
import Derived.Test.YtaellcgglldjaaaGreatHq03
import Derived.Shelf.SortM.Plain
import Derived.Shelf.SortM.SortNone
import Derived.Test.YtaellcgglldjaaaGreatHq01
import Derived.Laws.AppendOwnNone
import Derived.Test.YtaellcgglldjaaaGreatHq05
import Derived.Deep.CutBlock
import Derived.Shelf.SlSortCmp.Insertion
import Derived.Test.YtaellcgglldjaaaGreatHq04
set_option linter.all false
set_option linter.unusedVariables false
set_option linter.unusedSimpArgs false
namespace Go.Proofs.YtaellcgglldjaaaGreat
open Go.RowKit
theorem kO {α:Type} [Inhabited α] (enc:α→Value) (w:World) (blk off:Nat) (d:Array α):Touch (fun k=>k=blk) w (Go.Sort.putRow enc w blk off d):=
 ⟨rfl,rfl,rfl,by simp[Go.Sort.putRow,Go.Sort.mapBlock],fun k _ hs=>by unfold Go.Sort.putRow Go.Sort.mapBlock;rw[Array.getElem?_modify,if_neg (fun e=>hs e.symm)]⟩
theorem fI (S:Nat→Prop) (w:World) (os:Array Obj):Touch S w (Go.Sort.grow w os):=
 ⟨rfl,rfl,rfl,by simp[Go.Sort.grow],fun k hk _=>by unfold Go.Sort.grow;exact Array.getElem?_append_left hk⟩
theorem lN (S:Nat→Prop) (w:World) (m:Nat):Touch S w (Go.Sort.ahead w m):=⟨rfl,rfl,rfl,Nat.le_refl _,fun _ _ _=>rfl⟩
def bQ (l:List Int):List Int:=l.mergeSort fun x y=>decide (x≤y)
theorem cM (l:List Int):(bQ l).Perm l:=List.mergeSort_perm l _
theorem mS (l:List Int):(bQ l).length=l.length:=(cM l).length_eq
theorem uB (l:List Int):(bQ l).Pairwise (· ≤ ·):=by
 have h:=List.pairwise_mergeSort (le:=fun x y:Int=>decide (x≤y)) (by intro a b c h1 h2;simp at h1 h2⊢;omega) (by intro a b;simp;omega) l
 exact List.Pairwise.imp (fun {a b} h=>by simpa using h) h
theorem yG (l:List Int):l.flatMap intE.cells=l.map (Value.int .i64):=by
 induction l with
 |nil=>rfl
 |cons a l ih=>rw[List.flatMap_cons,ih];rfl
theorem aI9 {w:World} {g c n base:Nat} {e:TypeId} {l l':List Int} (h:Own intE w base e (.slice (some ⟨g,0,none⟩) n c) l) (ha:l'.length=n):Own intE (Go.Sort.putRow (Value.int .i64) w g 0 l'.toArray) base e (.slice (some ⟨g,0,none⟩) n c) l':=by
 obtain⟨h1,h2⟩:=h
 rcases h2 with⟨e,_⟩|⟨g',cap,cur,e,hb,hg,hn,hc,hs,ht⟩
 ·cases e
 ·have hl:n=l.length:=by injection e
  have hcc:c=cap:=by injection e
  have hgg:g=g':=by injection e with e1;injection e1 with e1;injection e1
  subst hcc hgg
  refine⟨by rw[yG];simp[intE], .inr ⟨g,c,Go.Sort.putCells (Value.int .i64) 0 l'.toArray cur,by rw[ha],hb,?_,by rw[ha,hl];exact hn,hc,by simp[Go.Sort.putCells,hs],?_⟩⟩
  ·unfold Go.Sort.putRow Go.Sort.mapBlock
   rw[Array.getElem?_modify,if_pos rfl,hg]
   rfl
  ·have hcur:l'.length≤cur.size:=by rw[hs,ha,hl];simpa [intE] using hn
   rw[yG]
   refine List.ext_getElem (by simp[Go.Sort.putCells,intE];omega) (fun i h1 h2=> ?_)
   have hi:i<l'.length:=by simpa using h2
   simp[Go.Sort.putCells,hi]
theorem aD8 {w:World} {g c base:Nat} {e:TypeId} {l:List Int} (h:Own intE w base e (.slice (some ⟨g,0,none⟩) l.length c) l):Go.Sort.Holds (Value.int .i64) w g 0 l.toArray:=by
 intro j hj
 have hr:=h.reads.ints.2
 have hjl:j<l.length:=by simpa using hj
 have h':w.ownsRow base e intE.size (.slice (some ⟨g,0,none⟩) l.length c) l.length (l.flatMap intE.cells):=h
 refine⟨?_,h'.frozenAt _⟩
 rw[hr j hjl]
 simp[hjl]
theorem aGm {w:World} {v:Value} {base:Nat} {l:List Int} (h:Own intE w base 3 v l) (hl:l.length≤100000):
  Calls Tryz.prog 73 #[v] w fun e w'=>e= .returned (.tuple #[])∧Own intE w' base 3 v (bQ l)∧Touch (fun k=>v.ownBlock=some k) w w':=by
 obtain⟨a,c,rfl⟩:=h.slice
 rcases h.2 with⟨hv,h0⟩|⟨g,cap,cur,hv,hb,hg,_⟩
 ·obtain rfl:l=[]:=List.eq_nil_of_length_eq_zero h0
  exact(Go.Proofs.AnyM.slices_Sort_int_none aJd a c w).mono fun e w' ⟨he,hw⟩=>⟨he,by rw[hw,show bQ []=[] by simp[bQ]];exact h,by rw[hw];exact Touch.refl _ _⟩
 ·cases hv
  refine(Go.Proofs.AnyM.slices_Sort_int aJd g 0 c l w (aD8 h) (lt_of_block hg) (by omega)).mono ?_
  rintro e w' ⟨rfl,n,os,rfl⟩
  have o1:Own intE (Go.Sort.ahead w n) base 3 (.slice (some ⟨g,0,none⟩) l.length c) l:=h
  have o2:=aI9 o1 (mS l)
  have t1:Touch (fun k=>k=g) w (Go.Sort.putRow (Value.int .i64) (Go.Sort.ahead w n) g 0 (bQ l).toArray):=(lN _ w n).trans (kO _ _ _ _ _)
  refine⟨rfl,o2.touch (fI (fun _=>False) _ os) (fun _ _ x=>x),(t1.trans (fI _ _ os)).mono (fun k _ hk=>by rw[hk];rfl)⟩
theorem aAu {α β:Type} {E:Enc α} {E':Enc β} {w:World} {base base':Nat} {e e':TypeId} {v v':Value} {l:List α} {l':List β} (h:Own E w base e v l) (h':Own E' w base' e' v' l') (hne:e≠e') {k:Nat} (hk:v.ownBlock=some k):v'.ownBlock≠some k:=by
 rcases h.2 with⟨rfl,_⟩|⟨g,cap,cur,rfl,_,hg,_⟩
 ·simp[Value.ownBlock]at hk
 ·rcases h'.2 with⟨rfl,_⟩|⟨g',cap',cur',rfl,_,hg',_⟩
  ·simp[Value.ownBlock]
  ·intro he
   have e1:g=k:=by simpa [Value.ownBlock] using hk
   have e2:g'=k:=by simpa [Value.ownBlock] using he
   subst e1 e2
   rw[hg]at hg'
   injection hg' with hg'
   injection hg' with _ h2 _
   exact hne h2
theorem dJ {α:Type} (E:Enc α) {P:Program} {t e:TypeId} {z:Value} {bytes:Nat} (T:cX P t e z E.size bytes) {ops:Array Oper} {rest:List Oper} {o:Oper} {a:Act} {Q:Exit→Act→World→Prop} {w:World}
  (hgd:o.guard=none) (s x:Operand) (ho:o.op= .call {callee:= .builtin .append,args:= #[s,x],argTypes:= #[t,t]})
  (base:Nat) (v:Value) (l1 l2:List α) (hs:a.eval s=v) (hown:Own E w base e v l1) (u:Value) (hx:a.eval x=u) (hr:Reads E w u l2)
  (hlen:(l1.length+l2.length)*bytes≤140737488355328) (hl:l1.length+l2.length≤1000000000) (hbase:base≤w.heap.size)
  (h: ∀v' w',Own E w' base e v' (l1++l2)→Touch (fun k=>v.ownBlock=some k) w w'→(∀k,v'.ownBlock=some k→v.ownBlock=some k∨w.heap.size≤k)→wpList P ops Q rest (a.put o.dst v') w'):wpList P ops Q (o::rest) a w:=by
 rcases hr with⟨rfl,rfl⟩|⟨b,off,c,rfl,hb,hc⟩
 ·obtain⟨i0,hi,_,_,_⟩:=info_parts T.info
  refine wpList_append_own_none hgd s x t ho base e i0 E.size T.under hi v l1.length (l1.flatMap E.cells) hs hown hx ?_
  exact h v w (by rw[List.append_nil];exact hown) (Touch.refl _ w) (fun k hk=> .inl hk)
 ·obtain⟨i0,hi,hz0,hz1,hz2⟩:=info_parts T.info
  have hcells: ∀(j:Nat) (u:Value),(l2.flatMap E.cells)[j]? =some u→w.cell? ((⟨b,off,none⟩:Addr).add j)=some u:=by
    intro j u hu
    have hadd:(⟨b,off,none⟩:Addr).add j=⟨b,off+j,none⟩:=by unfold Addr.add;split<;>simp_all
    rw[hadd]
    have hpos:0<E.size:=T.pos
    have hjl:j<l2.length*E.size:=by
     have:=(List.getElem?_eq_some_iff.1 hu).1
     rw[E.flat_len]at this
     exact this
    have hk:j/E.size<l2.length:=Nat.div_lt_of_lt_mul (by rw[Nat.mul_comm];exact hjl)
    have hm:j% E.size<E.size:=Nat.mod_lt _ hpos
    have hj:j/E.size*E.size+j% E.size=j:=by rw[Nat.mul_comm];exact Nat.div_add_mod j E.size
    have hy:l2[j/E.size]? =some l2[j/E.size]:=List.getElem?_eq_getElem hk
    obtain⟨u',hu'⟩: ∃u',(E.cells (l2[j/E.size]'hk))[j% E.size]? =some u':=⟨_,List.getElem?_eq_getElem (Nat.lt_of_lt_of_eq hm (E.len _).symm)⟩
    have h2:=cD E l2 _ _ hy _ _ hu'
    rw[hj,hu]at h2
    injection h2 with h2
    have:=hc _ _ hy _ _ hu'
    rw[hj]at this
    rw[h2]
    exact this
  refine wpList_append_own_at _ hgd s x t ho base e i0 z E.size bytes T.under hi hz0 hz1 hz2 T.zs T.pos v l1.length (l1.flatMap E.cells) hs hown ⟨b,off,none⟩ l2.length c (l2.flatMap E.cells) hx (E.flat_len l2) hcells (E.flat_one l2) (by unfold maxLen;omega) hlen hbase ?_
  intro v' w' hown' hg _ hat
  have hown'':Own E w' base e v' (l1++l2):=by
   unfold Own
   rw[List.length_append,List.flatMap_append]
   exact hown'
  refine h v' w' hown'' ((Touch.refl _ w).grown hg (fun k hk=> .inl hk)) (fun k hk=> ?_)
  rcases hat with hat|hat
  ·exact .inl (by rw[←hat];exact hk)
  ·rw[hat]at hk;injection hk with hk;exact .inr (by omega)
theorem iA {W H s a b:Int} (hr:aL W H s=true) (h0:0≤a) (ha:a<cnt W H s) (hb:b∈aO W H s a):0≤b∧b<cnt W H s:=by
 obtain⟨h1,h2,h3,h4,h5,h6⟩:=rightB_true.1 hr
 have b1:=bR W s h5 h6 h1 h2
 have b2:=bR H s h5 h6 h3 h4
 have e1:acr W s*(a/acr W s)+a% acr W s=a:=Int.mul_ediv_add_emod a (acr W s)
 have e2:=Int.emod_nonneg a (show acr W s≠0 by omega)
 have e3:0≤a/acr W s:=Int.ediv_nonneg h0 (by omega)
 have e4:0≤acr W s*(a/acr W s):=Int.mul_nonneg (by omega) e3
 rcases beside_mem.1 hb with⟨h,rfl⟩|⟨h,rfl⟩|⟨h,rfl⟩|⟨h,rfl⟩
 ·omega
 ·refine⟨by omega,?_⟩
  have e5:a/acr W s<acr H s:=by
   refine Int.ediv_lt_of_lt_mul (by omega) ?_
   unfold cnt at ha
   rw[Int.mul_comm]
   exact ha
  have e6:acr W s*(a/acr W s)≤acr W s*(acr H s-1):=Int.mul_le_mul_of_nonneg_left (by omega) (by omega)
  rw[Int.mul_sub,Int.mul_one]at e6
  unfold cnt
  omega
 ·omega
 ·omega
def btw (l:List Int) (W H s x y:Int):List (aB×aB):=fL (eK W H s x y) (oC (opB l W (eK W H s x y)) (eK W H s x y).length (eK W H s x y).length)
def oD (l:List Int) (W H s a:Int):List (aB×aB):=((bQ (aO W H s a)).filter (fun b=>decide (a≤b))).flatMap (btw l W H s a)
def ofG (l:List Int) (W H s:Int) (n:Nat):List (aB×aB):=(List.range n).flatMap fun k:Nat=>oD l W H s (k:Int)
theorem aBi {l:List Int} {W H s x y:Int} (hr:aL W H s=true) (h0:0≤min x y) (h1:min x y<cnt W H s):(btw l W H s x y).length≤16:=by
 unfold btw
 have h:=qD (hi:=max x y) hr h0 h1
 refine Nat.le_trans ?_ h
 unfold eK
 generalize aT W H s (min x y) (max x y)=B
 have:=(List.length_filterMap_le (fun k=>B[k]?) (oC (opB l W B) B.length B.length))
 refine Nat.le_trans this ?_
 unfold oC
 exact Nat.le_trans (List.length_filter_le _ _) (by simp)
theorem mL {α β:Type} (f:α→List β) (c:Nat): ∀(l:List α),(∀x∈l,(f x).length≤c)→(l.flatMap f).length≤l.length*c
 |[],_=>by simp
 |a::l,h=>by
  have h1:=h a (by simp)
  have h2:=mL f c l (fun x hx=>h x (by simp[hx]))
  rw[List.flatMap_cons,List.length_append,List.length_cons,Nat.add_mul,Nat.one_mul]
  omega
theorem yT {l:List Int} {W H s a:Int} (hr:aL W H s=true) (h0:0≤a) (ha:a<cnt W H s) (m:List Int) (hm: ∀b∈m,a≤b):(m.flatMap (btw l W H s a)).length≤m.length*16:=
 mL _ _ _ (fun b hb=>aBi hr (by have:=hm b hb;omega) (by have:=hm b hb;omega))
theorem aIl {l:List Int} {W H s a:Int} (hr:aL W H s=true) (h0:0≤a) (ha:a<cnt W H s):(oD l W H s a).length≤64:=by
 have h1:=yT (l:=l) hr h0 ha ((bQ (aO W H s a)).filter (fun b=>decide (a≤b))) (fun b hb=>by simpa using(List.mem_filter.1 hb).2)
 have h2:((bQ (aO W H s a)).filter (fun b=>decide (a≤b))).length≤4:=Nat.le_trans (List.length_filter_le _ _) (by rw[mS];exact jK W H s a)
 unfold oD
 omega
theorem aBz {l:List Int} {W H s:Int} (hr:aL W H s=true) {n:Nat} (hn:(n:Int)≤cnt W H s):(ofG l W H s n).length≤n*64:=by
 have:=mL (fun k:Nat=>oD l W H s (k:Int)) 64 (List.range n) (fun k hk=>aIl hr (by omega) (by have:=List.mem_range.1 hk;omega))
 simpa [ofG] using this
theorem sO {w:World} {base n c:Nat} {a:Option Addr} {l:List Int} {j:Nat} {b:Int} (h:Own intE w base 3 (.slice a n c) l) (hj:l[j]? =some b): ∃g,a=some ⟨g,0,none⟩∧w.cell? ⟨g,j,none⟩=some (.int .i64 b)∧g<w.heap.size:=by
 obtain⟨hjl,rfl⟩:=List.getElem?_eq_some_iff.1 hj
 have h':w.ownsRow base 3 1 (.slice a n c) l.length (l.flatMap intE.cells):=h
 rcases h.2 with⟨hv,h0⟩|⟨g,cap,cur,hv,hb,hg,_⟩
 ·omega
 ·cases hv
  refine⟨g,rfl,?_,lt_of_block hg⟩
  have:=h.reads.ints.2 j hjl
  simpa using this
theorem qL: ∀{l l':List Int},l.Pairwise (· < ·)→l'.Pairwise (· < ·)→(∀c,c∈l↔c∈l')→l=l'
 |[],[],_,_,_=>rfl
 |[],b::r,_,_,h=>by have:=(h b).2 (by simp);simp at this
 |a::r,[],_,_,h=>by have:=(h a).1 (by simp);simp at this
 |a::r,b::r',h1,h2,h=>by
  have ha:=List.pairwise_cons.1 h1
  have hb:=List.pairwise_cons.1 h2
  have e:a=b:=by
   rcases List.mem_cons.1 ((h a).1 (by simp)) with e|e
   ·exact e
   ·rcases List.mem_cons.1 ((h b).2 (by simp)) with e'|e'
    ·exact e'.symm
    ·have q1:=hb.1 a e
     have q2:=ha.1 b e'
     omega
  subst e
  congr 1
  refine qL ha.2 hb.2 (fun c=>⟨fun hc=> ?_,fun hc=> ?_⟩)
  ·rcases List.mem_cons.1 ((h c).1 (by simp[hc])) with e|e
   ·subst e;have:=ha.1 c hc;omega
   ·exact e
  ·rcases List.mem_cons.1 ((h c).2 (by simp[hc])) with e|e
   ·subst e;have:=hb.1 c hc;omega
   ·exact e
theorem uC {l:List Int} (h:l.Nodup):(bQ l).Pairwise (· < ·):=by
 have h1:=uB l
 have h2:(bQ l).Nodup:=(cM l).nodup_iff.2 h
 exact List.Pairwise.imp₂ (fun a b (h:a≤b) (h':a≠b)=>by omega) h1 h2
theorem wX {W H s id:Int} (hr:aL W H s=true):(aO W H s id).Nodup:=by
 obtain⟨h1,h2,h3,h4,h5,h6⟩:=rightB_true.1 hr
 have b1:=bR W s h5 h6 h1 h2
 rw[List.nodup_iff_count]
 intro x
 by_cases hx:x∈aO W H s id
 ·rw[aA9 b1.1 hx];exact Nat.le_refl _
 ·rw[List.count_eq_zero_of_not_mem hx];exact Nat.zero_le _
def aCh (l:List Int) (W H s x y:Int):List (aB×aB):=fL (tG W H s x y) (oC (opB l W (tG W H s x y)) (tG W H s x y).length (tG W H s x y).length)
theorem aE8 {l:List Int} {W H s x y:Int} (h:x≤y):aCh l W H s x y=if eV (aO W H s x) y=true then btw l W H s x y else[]:=by
 unfold aCh tG btw eK
 rw[show min x y=x by omega,show max x y=y by omega]
 by_cases hn:eV (aO W H s x) y=true
 ·rw[if_pos hn,if_pos hn]
 ·rw[if_neg hn,if_neg hn];rfl
def yY (l:List Int) (W H s:Int) (a m:Nat):List (aB×aB):=(List.range' (a+1) m).flatMap fun b:Nat=>aCh l W H s (a:Int) (b:Int)
def aG2 (l:List Int) (W H s:Int) (N n:Nat):List (aB×aB):=(List.range n).flatMap fun a:Nat=>yY l W H s a (N-(a+1))
theorem iF {α β:Type} {f g:α→List β}: ∀{l:List α},(∀x∈l,f x=g x)→l.flatMap f=l.flatMap g
 |[],_=>rfl
 |a::l,h=>by rw[List.flatMap_cons,List.flatMap_cons,h a (by simp),iF (fun x hx=>h x (by simp[hx]))]
theorem aBp {α β:Type} (p:α→Bool) (f:α→List β): ∀l:List α,(l.flatMap fun b=>if p b=true then f b else[])=(l.filter p).flatMap f
 |[]=>rfl
 |a::l=>by
  rw[List.flatMap_cons,aBp p f l,List.filter_cons]
  by_cases h:p a=true
  ·rw[if_pos h,if_pos h,List.flatMap_cons]
  ·rw[if_neg h,if_neg h,List.nil_append]
theorem aG4 {l:List Int} {W H s:Int} (hr:aL W H s=true) {N a:Nat} (hN:cnt W H s=(N:Int)) (ha:a<N):yY l W H s a (N-(a+1))=oD l W H s (a:Int):=by
 unfold yY oD
 have e1:(List.range' (a+1) (N-(a+1))).flatMap (fun b:Nat=>aCh l W H s (a:Int) (b:Int))=((List.range' (a+1) (N-(a+1))).map (fun b:Nat=>(b:Int))).flatMap (fun b=>if eV (aO W H s (a:Int)) b=true then btw l W H s (a:Int) b else[]):=by
  rw[List.flatMap_map]
  refine iF (fun b hb=> ?_)
  rw[List.mem_range'_1]at hb
  exact aE8 (by omega)
 rw[e1,aBp]
 congr 1
 refine qL ?_ ?_ (fun c=> ?_)
 ·refine List.Pairwise.filter _ ?_
  rw[List.pairwise_map]
  exact List.Pairwise.imp (fun {x y} h=>by omega) (List.pairwise_lt_range' (s:=a+1) (n:=N-(a+1)))
 ·exact(uC (wX hr)).filter _
 ·rw[List.mem_filter,List.mem_filter,(cM _).mem_iff,List.mem_map]
  unfold eV
  simp only[List.contains_iff_mem,decide_eq_true_eq]
  constructor
  ·rintro⟨⟨b,hb,rfl⟩,hm⟩
   rw[List.mem_range'_1]at hb
   exact⟨hm,by omega⟩
  ·rintro⟨hm,hle⟩
   have hg:=iA hr (by omega:0≤(a:Int)) (by omega) hm
   have hne:c≠(a:Int):=by
    rintro rfl
    have hs:=gH (id:=(a:Int)) hr
    unfold eV at hs
    simp at hs
    exact hs hm
   refine⟨⟨c.toNat,?_,by omega⟩,hm⟩
   rw[List.mem_range'_1]
   omega
theorem aG3 {l:List Int} {W H s:Int} (hr:aL W H s=true) {N:Nat} (hN:cnt W H s=(N:Int)):aG2 l W H s N N=ofG l W H s (cnt W H s).toNat:=by
 unfold aG2 ofG
 rw[show(cnt W H s).toNat=N by omega]
 refine iF (fun a ha=> ?_)
 exact aG4 hr hN (List.mem_range.1 ha)
def ltC (p q:aB):Prop:=p.2<q.2∨(p.2=q.2∧p.1<q.1)
def leC (p q:aB):Prop:=p.2<q.2∨(p.2=q.2∧p.1≤q.1)
def gD (p q:aB):Int:=if Go.Lib.compareInt p.2 q.2=0 then Go.Lib.compareInt p.1 q.1 else Go.Lib.compareInt p.2 q.2
theorem aBl (a b:Int):Go.Lib.compareInt a b<0↔a<b:=by unfold Go.Lib.compareInt;(repeat' split)<;>simp<;>omega
theorem aBk (a b:Int):Go.Lib.compareInt a b=0↔a=b:=by unfold Go.Lib.compareInt;(repeat' split)<;>simp<;>omega
theorem aJu (p q:aB):gD p q<0↔ltC p q:=by
 unfold gD ltC
 by_cases h:Go.Lib.compareInt p.2 q.2=0
 ·rw[if_pos h,aBl];rw[aBk]at h;omega
 ·rw[if_neg h,aBl];rw[aBk]at h;omega
instance (p q:aB):Decidable (ltC p q):=by unfold ltC;infer_instance
theorem kD (p q:aB):Go.Proofs.ltOf gD p q=decide (ltC p q):=by unfold Go.Proofs.ltOf;simp only[aJu]
theorem xE:Go.Sort.SWO (Go.Proofs.ltOf gD):=by
 refine⟨fun x=> ?_,fun x y z=> ?_,fun x y z=> ?_⟩
 all_goals simp only[kD,decide_eq_true_eq,decide_eq_false_iff_not]
 all_goals unfold ltC
 ·omega
 ·omega
 ·omega
theorem rX (x y:aB) (h1:Go.Proofs.ltOf gD x y=false) (h2:Go.Proofs.ltOf gD y x=false):x=y:=by
 simp only[kD,decide_eq_false_iff_not]at h1 h2
 unfold ltC at h1 h2
 exact Prod.ext (by omega) (by omega)
def fV (l:List aB):List aB:=l.mergeSort fun x y=> !(Go.Proofs.ltOf gD) y x
theorem fW (l:List aB):(fV l).Perm l:=List.mergeSort_perm l _
theorem pJ (l:List aB):(fV l).Pairwise leC:=by
 have h:=List.pairwise_mergeSort (le:=fun x y=> !(Go.Proofs.ltOf gD) y x) (by
  intro a b c h1 h2
  simp only[kD,Bool.not_eq_true',decide_eq_false_iff_not]at h1 h2⊢
  unfold ltC at h1 h2⊢
  omega) (by
  intro a b
  simp only[kD,Bool.or_eq_true,Bool.not_eq_true',decide_eq_false_iff_not]
  unfold ltC
  omega) l
 refine List.Pairwise.imp (fun {a b} h=> ?_) h
 simp only[kD,Bool.not_eq_true',decide_eq_false_iff_not]at h
 unfold ltC at h
 unfold leC
 omega
theorem gM: ∀{l l':List aB},l.Pairwise ltC→l'.Pairwise ltC→(∀c,c∈l↔c∈l')→l=l'
 |[],[],_,_,_=>rfl
 |[],b::r,_,_,h=>by have:=(h b).2 (by simp);simp at this
 |a::r,[],_,_,h=>by have:=(h a).1 (by simp);simp at this
 |a::r,b::r',h1,h2,h=>by
  have ha:=List.pairwise_cons.1 h1
  have hb:=List.pairwise_cons.1 h2
  have e:a=b:=by
   rcases List.mem_cons.1 ((h a).1 (by simp)) with e|e
   ·exact e
   ·rcases List.mem_cons.1 ((h b).2 (by simp)) with e'|e'
    ·exact e'.symm
    ·have q1:=hb.1 a e
     have q2:=ha.1 b e'
     unfold ltC at q1 q2
     omega
  subst e
  congr 1
  refine gM ha.2 hb.2 (fun c=>⟨fun hc=> ?_,fun hc=> ?_⟩)
  ·rcases List.mem_cons.1 ((h c).1 (by simp[hc])) with e|e
   ·subst e;have:=ha.1 c hc;unfold ltC at this;omega
   ·exact e
  ·rcases List.mem_cons.1 ((h c).2 (by simp[hc])) with e|e
   ·subst e;have:=hb.1 c hc;unfold ltC at this;omega
   ·exact e
structure CompAt (L X:List aB) (k m:Nat):Prop where
 len:X.length=L.length
 lt:k<m
 strict:(X.take k).Pairwise ltC
 mem: ∀c,c∈X.take k↔c∈L.take m
 back: ∀j,m-1≤j→X[j]? =L[j]?
theorem CompAt.start {L:List aB} {k:Nat} {q:aB} (hs:(L.take k).Pairwise ltC) (h0:0<k) (hq:L[k]? =some q) (hp:L[k-1]? =some q):CompAt L L k (k+1):=by
 refine⟨rfl,by omega,hs,fun c=> ?_,fun _ _=>rfl⟩
 have e:L.take (k+1)=L.take k++[q]:=by rw[List.take_add_one,hq];rfl
 rw[e,List.mem_append]
 constructor
 ·exact .inl
 ·rintro(h|h)
  ·exact h
  ·simp at h;subst h
   exact List.mem_of_getElem? (i:=k-1) (by rw[List.getElem?_take_of_lt (by omega)];exact hp)
theorem CompAt.same {L X:List aB} {k m:Nat} {q:aB} (h:CompAt L X k m) (h0:0<m) (hq:L[m]? =some q) (hp:L[m-1]? =some q):CompAt L X k (m+1):=by
 refine⟨h.len,by have:=h.lt;omega,h.strict,fun c=> ?_,fun j hj=>h.back j (by omega)⟩
 have e:L.take (m+1)=L.take m++[q]:=by rw[List.take_add_one,hq];rfl
 rw[e,List.mem_append,h.mem]
 constructor
 ·exact .inl
 ·rintro(h|h)
  ·exact h
  ·simp at h;subst h
   exact List.mem_of_getElem? (i:=m-1) (by rw[List.getElem?_take_of_lt (by omega)];exact hp)
theorem CompAt.more {L X:List aB} {k m:Nat} {p q:aB} (hL:L.Pairwise leC) (h:CompAt L X k m) (h0:0<m) (hq:L[m]? =some q) (hp:L[m-1]? =some p) (hne:q≠p):CompAt L (X.set k q) (k+1) (m+1):=by
 have hm:=(List.getElem?_eq_some_iff.1 hq)
 have hm':=(List.getElem?_eq_some_iff.1 hp)
 have hlt:=h.lt
 have hk:k<X.length:=by rw[h.len];have:=hm.1;omega
 have e:L.take (m+1)=L.take m++[q]:=by rw[List.take_add_one,hq];rfl
 have e2:(X.set k q).take (k+1)=X.take k++[q]:=by
  rw[List.take_add_one,List.getElem?_set_self hk,List.take_set,List.set_eq_of_length_le (by rw[List.length_take];omega)]
  rfl
 have hle: ∀c∈L.take m,ltC c q:=by
  intro c hc
  obtain⟨i,hi,rfl⟩:=List.getElem_of_mem hc
  rw[List.length_take]at hi
  rw[List.getElem_take]
  have hpq:leC p q:=by
   have:=List.pairwise_iff_getElem.1 hL (m-1) m hm'.1 hm.1 (by omega)
   rw[hm.2,hm'.2]at this
   exact this
  have hcp:L[i]'(by omega)=p∨leC (L[i]'(by omega)) p:=by
   by_cases e:i=m-1
   ·subst e;exact .inl hm'.2
   ·right
    have:=List.pairwise_iff_getElem.1 hL i (m-1) (by omega) hm'.1 (by omega)
    rw[hm'.2]at this
    exact this
  have hs:ltC p q:=by
   have hn: ¬(p.1=q.1∧p.2=q.2):=fun h=>hne (Prod.ext h.1.symm h.2.symm)
   unfold leC at hpq
   unfold ltC
   omega
  rcases hcp with e|hcp
  ·rw[e];exact hs
  ·unfold leC at hcp
   unfold ltC at hs⊢
   omega
 refine⟨by rw[List.length_set];exact h.len,by omega,?_,fun c=> ?_,fun j hj=> ?_⟩
 ·rw[e2,List.pairwise_append]
  refine⟨h.strict,List.pairwise_singleton _ _,fun a ha b hb=> ?_⟩
  simp at hb;subst hb
  exact hle a ((h.mem a).1 ha)
 ·rw[e2,e,List.mem_append,List.mem_append,h.mem]
 ·rw[List.getElem?_set_ne (by omega)]
  exact h.back j (by omega)
theorem aB4 {L:List aB} {k:Nat} {p q:aB} (hL:L.Pairwise leC) (hs:(L.take k).Pairwise ltC) (h0:0<k) (hq:L[k]? =some q) (hp:L[k-1]? =some p) (hne:q≠p):(L.take (k+1)).Pairwise ltC:=by
 have hm:=(List.getElem?_eq_some_iff.1 hq)
 have hm':=(List.getElem?_eq_some_iff.1 hp)
 have e:L.take (k+1)=L.take k++[q]:=by rw[List.take_add_one,hq];rfl
 rw[e,List.pairwise_append]
 refine⟨hs,List.pairwise_singleton _ _,fun a ha b hb=> ?_⟩
 obtain rfl:q=b:=(List.mem_singleton.1 hb).symm
 obtain⟨i,hi,rfl⟩:=List.getElem_of_mem ha
 rw[List.length_take]at hi
 rw[List.getElem_take]
 have hpq:leC p q:=by
  have:=List.pairwise_iff_getElem.1 hL (k-1) k hm'.1 hm.1 (by omega)
  rw[hm.2,hm'.2]at this
  exact this
 have hps:ltC p q:=by
  have hn: ¬(p.1=q.1∧p.2=q.2):=fun h=>hne (Prod.ext h.1.symm h.2.symm)
  unfold leC at hpq
  unfold ltC
  omega
 by_cases e:i=k-1
 ·subst e;rw[hm'.2];exact hps
 ·have:=List.pairwise_iff_getElem.1 hL i (k-1) (by omega) hm'.1 (by omega)
  rw[hm'.2]at this
  unfold leC at this
  unfold ltC at hps⊢
  omega
def jT (bx bw y:Int):List aB:=(List.range bw.toNat).map fun i:Nat=>(bx+(i:Int),y)
def gO (bx byy bw bh:Int):List aB:=(List.range bh.toNat).flatMap fun j:Nat=>jT bx bw (byy+(j:Int))
def gIn (L:List (aB×aB)) (c:aB):Bool:=L.any fun g=>eL g.1 c||eL g.2 c
def oR (bx byy bw bh:Int) (L:List (aB×aB)):List aB:=(gO bx byy bw bh).filter (gIn L)
def lF (W H s id:Int) (L:List (aB×aB)):List aB:=oR (aU W s id) (aP W s id) (bB W s id) (bA W H s id) L
theorem boxRow_mem {bx bw y:Int} {c:aB}:c∈jT bx bw y↔bx≤c.1∧c.1<bx+bw∧c.2=y:=by
 unfold jT
 rw[List.mem_map]
 constructor
 ·rintro⟨i,hi,rfl⟩
  rw[List.mem_range]at hi
  exact⟨by simp only;omega,by simp only;omega,rfl⟩
 ·rintro⟨h1,h2,h3⟩
  refine⟨(c.1-bx).toNat,List.mem_range.2 (by omega),Prod.ext ?_ h3.symm⟩
  simp only
  omega
theorem iC {bx byy bw bh:Int} {c:aB}:c∈gO bx byy bw bh↔bx≤c.1∧c.1<bx+bw∧byy≤c.2∧c.2<byy+bh:=by
 unfold gO
 rw[List.mem_flatMap]
 constructor
 ·rintro⟨j,hj,hc⟩
  rw[List.mem_range]at hj
  rw[boxRow_mem]at hc
  omega
 ·rintro⟨h1,h2,h3,h4⟩
  exact⟨(c.2-byy).toNat,List.mem_range.2 (by omega),boxRow_mem.2 ⟨h1,h2,by omega⟩⟩
theorem vR (bx bw y:Int):(jT bx bw y).Pairwise ltC:=by
 unfold jT
 rw[List.pairwise_map]
 refine List.Pairwise.imp (fun {a b} h=> ?_) (List.pairwise_lt_range)
 unfold ltC
 right
 exact⟨rfl,by simp only;omega⟩
theorem lV (bx byy bw bh:Int):(gO bx byy bw bh).Pairwise ltC:=by
 unfold gO
 generalize bh.toNat=n
 induction n with
 |zero=>simp
 |succ n ih=>
  rw[List.range_succ,List.flatMap_append,List.pairwise_append]
  refine⟨ih,by simpa using vR bx bw _,fun a ha b hb=> ?_⟩
  rw[List.mem_flatMap]at ha
  obtain⟨j,hj,ha⟩:=ha
  rw[List.mem_range]at hj
  simp only[List.flatMap_cons,List.flatMap_nil,List.append_nil]at hb
  rw[boxRow_mem]at ha hb
  unfold ltC
  left
  omega
theorem vS (bx byy bw bh:Int) (L:List (aB×aB)):(oR bx byy bw bh L).Pairwise ltC:=(lV bx byy bw bh).filter _
theorem gIn_iff {L:List (aB×aB)} {c:aB}:gIn L c=true↔ ∃g∈L,g.1=c∨g.2=c:=by
 unfold gIn
 simp only[List.any_eq_true,Bool.or_eq_true,aX,decide_eq_true_eq]
def inK (W H s id:Int) (c:aB):Prop:=inB W H c.1 c.2=true∧ofN W s c.1 c.2=id
theorem fT {W H s id:Int} (hr:aL W H s=true) (h0:0≤id) (hid:id<cnt W H s) {L:List (aB×aB)} {c:aB}:c∈lF W H s id L↔inK W H s id c∧gIn L c=true:=by
 unfold lF oR
 rw[List.mem_filter]
 refine and_congr_left (fun _=> ?_)
 rw[iC]
 unfold inK
 have hb:=iD hr h0 hid
 have hs:=jU hr h0 hid
 obtain⟨r1,r2,r3,r4,r5,r6⟩:=rightB_true.1 hr
 have key: ∀hi:inB W H c.1 c.2=true,(aU W s id≤c.1∧c.1<aU W s id+bB W s id∧aP W s id≤c.2∧c.2<aP W s id+bA W H s id)↔ofN W s c.1 c.2=id:=fun hi=>by
  rw[show(ofN W s c.1 c.2=id)↔(id=ofN W s c.1 c.2) from eq_comm,←nW hr hi h0 hid]
  unfold lI lE
  rw[hasB_true]
 constructor
 ·intro h
  have hi:inB W H c.1 c.2=true:=by
   rw[inB_true]
   unfold bB bA at h hs
   omega
  exact⟨hi,(key hi).1 h⟩
 ·rintro⟨hi,he⟩
  exact(key hi).2 he
theorem kL (W H s id:Int) (L:List (aB×aB)):(lF W H s id L).Pairwise ltC:=vS _ _ _ _ _
theorem aCi {bx byy bw bh:Int} (L:List (aB×aB)) (h1:bw≤16) (h2:bh≤16):(oR bx byy bw bh L).length≤256:=by
 unfold oR
 refine Nat.le_trans (List.length_filter_le _ _) ?_
 unfold gO
 have: ∀n:Nat,n≤16→((List.range n).flatMap fun j:Nat=>jT bx bw (byy+(j:Int))).length≤n*16:=by
  intro n hn
  induction n with
  |zero=>simp
  |succ n ih=>
   rw[List.range_succ,List.flatMap_append,List.length_append]
   have h3:=ih (by omega)
   have h4:(jT bx bw (byy+(n:Int))).length≤16:=by unfold jT;simp;omega
   simp only[List.flatMap_cons,List.flatMap_nil,List.append_nil]
   omega
 have:=this bh.toNat (by omega)
 omega
theorem rW {W H s id:Int} (hr:aL W H s=true) (h0:0≤id) (hid:id<cnt W H s) (L:List (aB×aB)):(lF W H s id L).length≤256:=by
 have hs:=jU hr h0 hid
 exact aCi L (by omega) (by omega)
end Go.Proofs.YtaellcgglldjaaaGreat

