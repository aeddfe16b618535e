/- Part of a proof: SortI. -/
import Derived.Test.YtaellcgglldjaaaGreatHierFindsQ02
import Derived.Test.YtaellcgglldjaaaGreatHierFindsQ03
import Derived.Shelf.SortM.Plain
import Derived.Shelf.SortM.SortNone
import Derived.Test.YtaellcgglldjaaaGreatHierFindsQ01
import Derived.Laws.AppendOwnNone
import Derived.Test.YtaellcgglldjaaaGreatHierFindsQ06
import Derived.Deep.CutBlock
import Derived.Shelf.SlSortCmp.Insertion
import Derived.Test.YtaellcgglldjaaaGreatHierFindsQ04
set_option linter.all false
set_option linter.unusedVariables false
set_option linter.unusedSimpArgs false
namespace Go.Proofs.YtaellcgglldjaaaGreat
open Go.RowKit
theorem lP {α:Type} [Inhabited α] (enc:α→Value) (w:World) (blk off:Nat) (d:Array α):Touch (fun k=>k=blk) w (Go.Sort.putRow enc w blk off d):=
 ⟨rfl,rfl,rfl,by simp[Go.Sort.putRow,Go.Sort.mapBlock],fun k _ hs=>by unfold Go.Sort.putRow Go.Sort.mapBlock;rw[Array.getElem?_modify,if_neg (fun e=>hs e.symm)]⟩
theorem fY (S:Nat→Prop) (w:World) (os:Array Obj):Touch S w (Go.Sort.grow w os):=
 ⟨rfl,rfl,rfl,by simp[Go.Sort.grow],fun k hk _=>by unfold Go.Sort.grow;exact Array.getElem?_append_left hk⟩
theorem mP (S:Nat→Prop) (w:World) (m:Nat):Touch S w (Go.Sort.ahead w m):=⟨rfl,rfl,rfl,Nat.le_refl _,fun _ _ _=>rfl⟩
def cG (l:List Int):List Int:=l.mergeSort fun x y=>decide (x≤y)
theorem dO (l:List Int):(cG l).Perm l:=List.mergeSort_perm l _
theorem nU (l:List Int):(cG l).length=l.length:=(dO l).length_eq
theorem uW (l:List Int):(cG l).Pairwise (· ≤ ·):=by
 have h:=List.pairwise_mergeSort (le:=fun x y:Int=>decide (x≤y)) (by intro a b c h1 h2;simp at h1 h2⊢;omega) (by intro a b;simp;omega) l
 exact List.Pairwise.imp (fun {a b} h=>by simpa using h) h
theorem zL (l:List Int):l.flatMap intE.cells=l.map (Value.int .i64):=by
 induction l with
 |nil=>rfl
 |cons a l ih=>rw[List.flatMap_cons,ih];rfl
theorem aJs {w:World} {g c n base:Nat} {e:TypeId} {l l':List Int} (h:Own intE w base e (.slice (some ⟨g,0,none⟩) n c) l) (ha:l'.length=n):Own intE (Go.Sort.putRow (Value.int .i64) w g 0 l'.toArray) base e (.slice (some ⟨g,0,none⟩) n c) l':=by
 obtain⟨h1,h2⟩:=h
 rcases h2 with⟨e,_⟩|⟨g',cap,cur,e,hb,hg,hn,hc,hs,ht⟩
 ·cases e
 have hl:n=l.length:=by injection e
 have hcc:c=cap:=by injection e
 have hgg:g=g':=by injection e with e1;injection e1 with e1;injection e1
 subst hcc hgg
 refine⟨by rw[zL];simp[intE], .inr ⟨g,c,Go.Sort.putCells (Value.int .i64) 0 l'.toArray cur,by rw[ha],hb,?_,by rw[ha,hl];exact hn,hc,by simp[Go.Sort.putCells,hs],?_⟩⟩
 ·unfold Go.Sort.putRow Go.Sort.mapBlock
  rw[Array.getElem?_modify,if_pos rfl,hg]
  rfl
 have hcur:l'.length≤cur.size:=by rw[hs,ha,hl];simpa [intE] using hn
 rw[zL]
 refine List.ext_getElem (by simp[Go.Sort.putCells,intE];omega) (fun i h1 h2=> ?_)
 have hi:i<l'.length:=by simpa using h2
 simp[Go.Sort.putCells,hi]
theorem aEj {w:World} {g c base:Nat} {e:TypeId} {l:List Int} (h:Own intE w base e (.slice (some ⟨g,0,none⟩) l.length c) l):Go.Sort.Holds (Value.int .i64) w g 0 l.toArray:=by
 intro j hj
 have hr:=h.reads.ints.2
 have hjl:j<l.length:=by simpa using hj
 have h':w.ownsRow base e intE.size (.slice (some ⟨g,0,none⟩) l.length c) l.length (l.flatMap intE.cells):=h
 refine⟨?_,h'.frozenAt _⟩
 rw[hr j hjl]
 simp[hjl]
theorem aI0 {w:World} {v:Value} {base:Nat} {l:List Int} (h:Own intE w base 3 v l) (hl:l.length≤100000):
  Calls Tryz.prog 73 #[v] w fun e w'=>e= .returned (.tuple #[])∧Own intE w' base 3 v (cG l)∧Touch (fun k=>v.ownBlock=some k) w w':=by
 obtain⟨a,c,rfl⟩:=h.slice
 rcases h.2 with⟨hv,h0⟩|⟨g,cap,cur,hv,hb,hg,_⟩
 ·obtain rfl:l=[]:=List.eq_nil_of_length_eq_zero h0
  exact(Go.Proofs.AnyM.slices_Sort_int_none aKp a c w).mono fun e w' ⟨he,hw⟩=>⟨he,by rw[hw,show cG []=[] by simp[cG]];exact h,by rw[hw];exact Touch.refl _ _⟩
 cases hv
 refine(Go.Proofs.AnyM.slices_Sort_int aKp g 0 c l w (aEj h) (lt_of_block hg) (by omega)).mono ?_
 rintro e w' ⟨rfl,n,os,rfl⟩
 have o1:Own intE (Go.Sort.ahead w n) base 3 (.slice (some ⟨g,0,none⟩) l.length c) l:=h
 have o2:=aJs o1 (nU l)
 have t1:Touch (fun k=>k=g) w (Go.Sort.putRow (Value.int .i64) (Go.Sort.ahead w n) g 0 (cG l).toArray):=(mP _ w n).trans (lP _ _ _ _ _)
 refine⟨rfl,o2.touch (fY (fun _=>False) _ os) (fun _ _ x=>x),(t1.trans (fY _ _ os)).mono (fun k _ hk=>by rw[hk];rfl)⟩
theorem aBs {α β:Type} {E:Enc α} {E':Enc β} {w:World} {base base':Nat} {e e':TypeId} {v v':Value} {l:List α} {l':List β} (h:Own E w base e v l) (h':Own E' w base' e' v' l') (hne:e≠e') {k:Nat} (hk:v.ownBlock=some k):v'.ownBlock≠some k:=by
 rcases h.2 with⟨rfl,_⟩|⟨g,cap,cur,rfl,_,hg,_⟩
 ·simp[Value.ownBlock]at hk
 rcases h'.2 with⟨rfl,_⟩|⟨g',cap',cur',rfl,_,hg',_⟩
 ·simp[Value.ownBlock]
 intro he
 have e1:g=k:=by simpa [Value.ownBlock] using hk
 have e2:g'=k:=by simpa [Value.ownBlock] using he
 subst e1 e2
 rw[hg]at hg'
 injection hg' with hg'
 injection hg' with _ h2 _
 exact hne h2
theorem cO {α:Type} (E:Enc α) {P:Program} {t e:TypeId} {z:Value} {bytes:Nat} (T:cH P t e z E.size bytes) {ops:Array Oper} {rest:List Oper} {o:Oper} {a:Act} {Q:Exit→Act→World→Prop} {w:World}
  (hgd:o.guard=none) (s x:Operand) (ho:o.op= .call {callee:= .builtin .append,args:= #[s,x],argTypes:= #[t,t]})
  (base:Nat) (v:Value) (l1 l2:List α) (hs:a.eval s=v) (hown:Own E w base e v l1) (u:Value) (hx:a.eval x=u) (hr:Reads E w u l2)
  (hlen:(l1.length+l2.length)*bytes≤140737488355328) (hl:l1.length+l2.length≤1000000000) (hbase:base≤w.heap.size)
  (h: ∀v' w',Own E w' base e v' (l1++l2)→Touch (fun k=>v.ownBlock=some k) w w'→(∀k,v'.ownBlock=some k→v.ownBlock=some k∨w.heap.size≤k)→wpList P ops Q rest (a.put o.dst v') w'):wpList P ops Q (o::rest) a w:=by
 rcases hr with⟨rfl,rfl⟩|⟨b,off,c,rfl,hb,hc⟩
 ·obtain⟨i0,hi,_,_,_⟩:=info_parts T.info
  refine wpList_append_own_none hgd s x t ho base e i0 E.size T.under hi v l1.length (l1.flatMap E.cells) hs hown hx ?_
  exact h v w (by rw[List.append_nil];exact hown) (Touch.refl _ w) (fun k hk=> .inl hk)
 obtain⟨i0,hi,hz0,hz1,hz2⟩:=info_parts T.info
 have hcells: ∀(j:Nat) (u:Value),(l2.flatMap E.cells)[j]? =some u→w.cell? ((⟨b,off,none⟩:Addr).add j)=some u:=by
   intro j u hu
   have hadd:(⟨b,off,none⟩:Addr).add j=⟨b,off+j,none⟩:=by unfold Addr.add;split<;>simp_all
   rw[hadd]
   have hpos:0<E.size:=T.pos
   have hjl:j<l2.length*E.size:=by
    have:=(zJ hu).1
    rw[E.flat_len]at this
    exact this
   have hk:j/E.size<l2.length:=Nat.div_lt_of_lt_mul (by rw[Nat.mul_comm];exact hjl)
   have hm:j% E.size<E.size:=Nat.mod_lt _ hpos
   have hj:j/E.size*E.size+j% E.size=j:=by rw[Nat.mul_comm];exact Nat.div_add_mod j E.size
   have hy:l2[j/E.size]? =some l2[j/E.size]:=zG hk
   obtain⟨u',hu'⟩: ∃u',(E.cells (l2[j/E.size]'hk))[j% E.size]? =some u':=⟨_,zG (Nat.lt_of_lt_of_eq hm (E.len _).symm)⟩
   have h2:=cM E l2 _ _ hy _ _ hu'
   rw[hj,hu]at h2
   injection h2 with h2
   have:=hc _ _ hy _ _ hu'
   rw[hj]at this
   rw[h2]
   exact this
 refine wpList_append_own_at _ hgd s x t ho base e i0 z E.size bytes T.under hi hz0 hz1 hz2 T.zs T.pos v l1.length (l1.flatMap E.cells) hs hown ⟨b,off,none⟩ l2.length c (l2.flatMap E.cells) hx (E.flat_len l2) hcells (E.flat_one l2) (by unfold maxLen;omega) hlen hbase ?_
 intro v' w' hown' hg _ hat
 have hown'':Own E w' base e v' (l1++l2):=by
  unfold Own
  rw[List.length_append,List.flatMap_append]
  exact hown'
 refine h v' w' hown'' ((Touch.refl _ w).grown hg (fun k hk=> .inl hk)) (fun k hk=> ?_)
 rcases hat with hat|hat
 ·exact .inl (by rw[←hat];exact hk)
 rw[hat]at hk;injection hk with hk;exact .inr (by omega)
theorem jG {W H s a b:Int} (hr:aK W H s=true) (h0:0≤a) (ha:a<cnt W H s) (hb:b∈aQ W H s a):0≤b∧b<cnt W H s:=by
 obtain⟨h1,h2,h3,h4,h5,h6⟩:=rightB_true.1 hr
 have b1:=bU W s h5 h6 h1 h2
 have b2:=bU H s h5 h6 h3 h4
 have e1:acr W s*(a/acr W s)+a% acr W s=a:=Int.mul_ediv_add_emod a (acr W s)
 have e2:=Int.emod_nonneg a (show acr W s≠0 by omega)
 have e3:0≤a/acr W s:=Int.ediv_nonneg h0 (by omega)
 have e4:0≤acr W s*(a/acr W s):=Int.mul_nonneg (by omega) e3
 rcases beside_mem.1 hb with⟨h,rfl⟩|⟨h,rfl⟩|⟨h,rfl⟩|⟨h,rfl⟩
 ·omega
 ·refine⟨by omega,?_⟩
  have e5:a/acr W s<acr H s:=by
   refine Int.ediv_lt_of_lt_mul (by omega) ?_
   unfold cnt at ha
   rw[Int.mul_comm]
   exact ha
  have e6:acr W s*(a/acr W s)≤acr W s*(acr H s-1):=Int.mul_le_mul_of_nonneg_left (by omega) (by omega)
  rw[Int.mul_sub,Int.mul_one]at e6
  unfold cnt
  omega
 ·omega
 omega
def btw (l:List Int) (W H s x y:Int):List (aB×aB):=eC (fP W H s x y) (gA (opB l W (fP W H s x y)) (fP W H s x y).length (fP W H s x y).length)
def qN (l:List Int) (W H s a:Int):List (aB×aB):=((cG (aQ W H s a)).filter (fun b=>decide (a≤b))).flatMap (btw l W H s a)
def ofG (l:List Int) (W H s:Int) (n:Nat):List (aB×aB):=(List.range n).flatMap fun k:Nat=>qN l W H s (k:Int)
theorem aCk {l:List Int} {W H s x y:Int} (hr:aK W H s=true) (h0:0≤min x y) (h1:min x y<cnt W H s):(btw l W H s x y).length≤16:=by
 unfold btw
 have h:=nM (hi:=max x y) hr h0 h1
 refine Nat.le_trans ?_ h
 unfold fP
 generalize bI W H s (min x y) (max x y)=B
 have:=(List.length_filterMap_le (fun k=>B[k]?) (gA (opB l W B) B.length B.length))
 refine Nat.le_trans this ?_
 unfold gA
 exact Nat.le_trans (List.length_filter_le _ _) (by simp)
theorem nR {α β:Type} (f:α→List β) (c:Nat): ∀(l:List α),(∀x∈l,(f x).length≤c)→(l.flatMap f).length≤l.length*c
 |[],_=>by simp
 |a::l,h=>by
  have h1:=h a (by simp)
  have h2:=nR f c l (fun x hx=>h x (by simp[hx]))
  rw[List.flatMap_cons,List.length_append,List.length_cons,Nat.add_mul,Nat.one_mul]
  omega
theorem zX {l:List Int} {W H s a:Int} (hr:aK W H s=true) (h0:0≤a) (ha:a<cnt W H s) (m:List Int) (hm: ∀b∈m,a≤b):(m.flatMap (btw l W H s a)).length≤m.length*16:=
 nR _ _ _ (fun b hb=>aCk hr (by have:=hm b hb;omega) (by have:=hm b hb;omega))
theorem aAc {l:List Int} {W H s a:Int} (hr:aK W H s=true) (h0:0≤a) (ha:a<cnt W H s):(qN l W H s a).length≤64:=by
 have h1:=zX (l:=l) hr h0 ha ((cG (aQ W H s a)).filter (fun b=>decide (a≤b))) (fun b hb=>by simpa using(List.mem_filter.1 hb).2)
 have h2:((cG (aQ W H s a)).filter (fun b=>decide (a≤b))).length≤4:=Nat.le_trans (List.length_filter_le _ _) (by rw[nU];exact kO W H s a)
 unfold qN
 omega
theorem aD6 {l:List Int} {W H s:Int} (hr:aK W H s=true) {n:Nat} (hn:(n:Int)≤cnt W H s):(ofG l W H s n).length≤n*64:=by
 have:=nR (fun k:Nat=>qN l W H s (k:Int)) 64 (List.range n) (fun k hk=>aAc hr (by omega) (by have:=List.mem_range.1 hk;omega))
 simpa [ofG] using this
theorem tR {w:World} {base n c:Nat} {a:Option Addr} {l:List Int} {j:Nat} {b:Int} (h:Own intE w base 3 (.slice a n c) l) (hj:l[j]? =some b): ∃g,a=some ⟨g,0,none⟩∧w.cell? ⟨g,j,none⟩=some (.int .i64 b)∧g<w.heap.size:=by
 obtain⟨hjl,rfl⟩:=zJ hj
 have h':w.ownsRow base 3 1 (.slice a n c) l.length (l.flatMap intE.cells):=h
 rcases h.2 with⟨hv,h0⟩|⟨g,cap,cur,hv,hb,hg,_⟩
 ·omega
 cases hv
 refine⟨g,rfl,?_,lt_of_block hg⟩
 have:=h.reads.ints.2 j hjl
 simpa using this
theorem rN: ∀{l l':List Int},l.Pairwise (· < ·)→l'.Pairwise (· < ·)→(∀c,c∈l↔c∈l')→l=l'
 |[],[],_,_,_=>rfl
 |[],b::r,_,_,h=>by have:=(h b).2 (by simp);simp at this
 |a::r,[],_,_,h=>by have:=(h a).1 (by simp);simp at this
 |a::r,b::r',h1,h2,h=>by
  have ha:=List.pairwise_cons.1 h1
  have hb:=List.pairwise_cons.1 h2
  have e:a=b:=by
   rcases List.mem_cons.1 ((h a).1 (by simp)) with e|e
   ·exact e
   rcases List.mem_cons.1 ((h b).2 (by simp)) with e'|e'
   ·exact e'.symm
   have q1:=hb.1 a e
   have q2:=ha.1 b e'
   omega
  subst e
  congr 1
  refine rN ha.2 hb.2 (fun c=>⟨fun hc=> ?_,fun hc=> ?_⟩)
  ·rcases List.mem_cons.1 ((h c).1 (by simp[hc])) with e|e
   ·subst e;have:=ha.1 c hc;omega
   exact e
  rcases List.mem_cons.1 ((h c).2 (by simp[hc])) with e|e
  ·subst e;have:=hb.1 c hc;omega
  exact e
theorem uX {l:List Int} (h:l.Nodup):(cG l).Pairwise (· < ·):=by
 have h1:=uW l
 have h2:(cG l).Nodup:=(dO l).nodup_iff.2 h
 exact List.Pairwise.imp₂ (fun a b (h:a≤b) (h':a≠b)=>by omega) h1 h2
theorem yC {W H s id:Int} (hr:aK W H s=true):(aQ W H s id).Nodup:=by
 obtain⟨h1,h2,h3,h4,h5,h6⟩:=rightB_true.1 hr
 have b1:=bU W s h5 h6 h1 h2
 rw[List.nodup_iff_count]
 intro x
 by_cases hx:x∈aQ W H s id
 ·rw[aB7 b1.1 hx];exact Nat.le_refl _
 rw[List.count_eq_zero_of_not_mem hx];exact Nat.zero_le _
def lH (l:List Int) (W H s x y:Int):List (aB×aB):=eC (dT W H s x y) (gA (opB l W (dT W H s x y)) (dT W H s x y).length (dT W H s x y).length)
theorem aFn {l:List Int} {W H s x y:Int} (h:x≤y):lH l W H s x y=if eP (aQ W H s x) y=true then btw l W H s x y else[]:=by
 unfold lH dT btw fP
 rw[show min x y=x by omega,show max x y=y by omega]
 by_cases hn:eP (aQ W H s x) y=true
 ·rw[if_pos hn,if_pos hn]
 rw[if_neg hn,if_neg hn];rfl
def dY (l:List Int) (W H s:Int) (a m:Nat):List (aB×aB):=(List.range' (a+1) m).flatMap fun b:Nat=>lH l W H s (a:Int) (b:Int)
def fK (l:List Int) (W H s:Int) (N n:Nat):List (aB×aB):=(List.range n).flatMap fun a:Nat=>dY l W H s a (N-(a+1))
theorem jM {α β:Type} {f g:α→List β}: ∀{l:List α},(∀x∈l,f x=g x)→l.flatMap f=l.flatMap g
 |[],_=>rfl
 |a::l,h=>by rw[List.flatMap_cons,List.flatMap_cons,h a (by simp),jM (fun x hx=>h x (by simp[hx]))]
theorem aCu {α β:Type} (p:α→Bool) (f:α→List β): ∀l:List α,(l.flatMap fun b=>if p b=true then f b else[])=(l.filter p).flatMap f
 |[]=>rfl
 |a::l=>by
  rw[List.flatMap_cons,aCu p f l,List.filter_cons]
  by_cases h:p a=true
  ·rw[if_pos h,if_pos h,List.flatMap_cons]
  rw[if_neg h,if_neg h,List.nil_append]
theorem wO {l:List Int} {W H s:Int} (hr:aK W H s=true) {N a:Nat} (hN:cnt W H s=(N:Int)) (ha:a<N):dY l W H s a (N-(a+1))=qN l W H s (a:Int):=by
 unfold dY qN
 have e1:(List.range' (a+1) (N-(a+1))).flatMap (fun b:Nat=>lH l W H s (a:Int) (b:Int))=((List.range' (a+1) (N-(a+1))).map (fun b:Nat=>(b:Int))).flatMap (fun b=>if eP (aQ W H s (a:Int)) b=true then btw l W H s (a:Int) b else[]):=by
  rw[List.flatMap_map]
  refine jM (fun b hb=> ?_)
  rw[List.mem_range'_1]at hb
  exact aFn (by omega)
 rw[e1,aCu]
 congr 1
 refine rN ?_ ?_ (fun c=> ?_)
 ·refine List.Pairwise.filter _ ?_
  rw[List.pairwise_map]
  exact List.Pairwise.imp (fun {x y} h=>by omega) (List.pairwise_lt_range' (s:=a+1) (n:=N-(a+1)))
 ·exact(uX (yC hr)).filter _
 rw[List.mem_filter,List.mem_filter,(dO _).mem_iff,List.mem_map]
 unfold eP
 simp only[List.contains_iff_mem,decide_eq_true_eq]
 constructor
 ·rintro⟨⟨b,hb,rfl⟩,hm⟩
  rw[List.mem_range'_1]at hb
  exact⟨hm,by omega⟩
 rintro⟨hm,hle⟩
 have hg:=jG hr (by omega:0≤(a:Int)) (by omega) hm
 have hne:c≠(a:Int):=by
  rintro rfl
  have hs:=fV (id:=(a:Int)) hr
  unfold eP at hs
  simp at hs
  exact hs hm
 refine⟨⟨c.toNat,?_,by omega⟩,hm⟩
 rw[List.mem_range'_1]
 omega
theorem wN {l:List Int} {W H s:Int} (hr:aK W H s=true) {N:Nat} (hN:cnt W H s=(N:Int)):fK l W H s N N=ofG l W H s (cnt W H s).toNat:=by
 unfold fK ofG
 rw[show(cnt W H s).toNat=N by omega]
 refine jM (fun a ha=> ?_)
 exact wO hr hN (List.mem_range.1 ha)
def ltC (p q:aB):Prop:=p.2<q.2∨(p.2=q.2∧p.1<q.1)
def leC (p q:aB):Prop:=p.2<q.2∨(p.2=q.2∧p.1≤q.1)
def hU (p q:aB):Int:=if Go.Lib.compareInt p.2 q.2=0 then Go.Lib.compareInt p.1 q.1 else Go.Lib.compareInt p.2 q.2
theorem aCo (a b:Int):Go.Lib.compareInt a b<0↔a<b:=by unfold Go.Lib.compareInt;(repeat' split)<;>simp<;>omega
theorem aCn (a b:Int):Go.Lib.compareInt a b=0↔a=b:=by unfold Go.Lib.compareInt;(repeat' split)<;>simp<;>omega
theorem aL6 (p q:aB):hU p q<0↔ltC p q:=by
 unfold hU ltC
 by_cases h:Go.Lib.compareInt p.2 q.2=0
 ·rw[if_pos h,aCo];rw[aCn]at h;omega
 rw[if_neg h,aCo];rw[aCn]at h;omega
instance (p q:aB):Decidable (ltC p q):=by unfold ltC;infer_instance
theorem lA (p q:aB):Go.Proofs.ltOf hU p q=decide (ltC p q):=by unfold Go.Proofs.ltOf;simp only[aL6]
theorem yI:Go.Sort.SWO (Go.Proofs.ltOf hU):=by
 refine⟨fun x=> ?_,fun x y z=> ?_,fun x y z=> ?_⟩
 all_goals simp only[lA,decide_eq_true_eq,decide_eq_false_iff_not]
 all_goals unfold ltC
 ·omega
 ·omega
 omega
theorem tB (x y:aB) (h1:Go.Proofs.ltOf hU x y=false) (h2:Go.Proofs.ltOf hU y x=false):x=y:=by
 simp only[lA,decide_eq_false_iff_not]at h1 h2
 unfold ltC at h1 h2
 exact Prod.ext (by omega) (by omega)
def gS (l:List aB):List aB:=l.mergeSort fun x y=> !(Go.Proofs.ltOf hU) y x
theorem gT (l:List aB):(gS l).Perm l:=List.mergeSort_perm l _
theorem qQ (l:List aB):(gS l).Pairwise leC:=by
 have h:=List.pairwise_mergeSort (le:=fun x y=> !(Go.Proofs.ltOf hU) y x) (by
  intro a b c h1 h2
  simp only[lA,Bool.not_eq_true',decide_eq_false_iff_not]at h1 h2⊢
  unfold ltC at h1 h2⊢
  omega) (by
  intro a b
  simp only[lA,Bool.or_eq_true,Bool.not_eq_true',decide_eq_false_iff_not]
  unfold ltC
  omega) l
 refine List.Pairwise.imp (fun {a b} h=> ?_) h
 simp only[lA,Bool.not_eq_true',decide_eq_false_iff_not]at h
 unfold ltC at h
 unfold leC
 omega
theorem iL: ∀{l l':List aB},l.Pairwise ltC→l'.Pairwise ltC→(∀c,c∈l↔c∈l')→l=l'
 |[],[],_,_,_=>rfl
 |[],b::r,_,_,h=>by have:=(h b).2 (by simp);simp at this
 |a::r,[],_,_,h=>by have:=(h a).1 (by simp);simp at this
 |a::r,b::r',h1,h2,h=>by
  have ha:=List.pairwise_cons.1 h1
  have hb:=List.pairwise_cons.1 h2
  have e:a=b:=by
   rcases List.mem_cons.1 ((h a).1 (by simp)) with e|e
   ·exact e
   rcases List.mem_cons.1 ((h b).2 (by simp)) with e'|e'
   ·exact e'.symm
   have q1:=hb.1 a e
   have q2:=ha.1 b e'
   unfold ltC at q1 q2
   omega
  subst e
  congr 1
  refine iL ha.2 hb.2 (fun c=>⟨fun hc=> ?_,fun hc=> ?_⟩)
  ·rcases List.mem_cons.1 ((h c).1 (by simp[hc])) with e|e
   ·subst e;have:=ha.1 c hc;unfold ltC at this;omega
   exact e
  rcases List.mem_cons.1 ((h c).2 (by simp[hc])) with e|e
  ·subst e;have:=hb.1 c hc;unfold ltC at this;omega
  exact e
structure CompAt (L X:List aB) (k m:Nat):Prop where
 len:X.length=L.length
 lt:k<m
 strict:(X.take k).Pairwise ltC
 mem: ∀c,c∈X.take k↔c∈L.take m
 back: ∀j,m-1≤j→X[j]? =L[j]?
theorem CompAt.start {L:List aB} {k:Nat} {q:aB} (hs:(L.take k).Pairwise ltC) (h0:0<k) (hq:L[k]? =some q) (hp:L[k-1]? =some q):CompAt L L k (k+1):=by
 refine⟨rfl,by omega,hs,fun c=> ?_,fun _ _=>rfl⟩
 have e:L.take (k+1)=L.take k++[q]:=by rw[List.take_add_one,hq];rfl
 rw[e,List.mem_append]
 constructor
 ·exact .inl
 rintro(h|h)
 ·exact h
 simp at h;subst h
 exact List.mem_of_getElem? (i:=k-1) (by rw[List.getElem?_take_of_lt (by omega)];exact hp)
theorem CompAt.same {L X:List aB} {k m:Nat} {q:aB} (h:CompAt L X k m) (h0:0<m) (hq:L[m]? =some q) (hp:L[m-1]? =some q):CompAt L X k (m+1):=by
 refine⟨h.len,by have:=h.lt;omega,h.strict,fun c=> ?_,fun j hj=>h.back j (by omega)⟩
 have e:L.take (m+1)=L.take m++[q]:=by rw[List.take_add_one,hq];rfl
 rw[e,List.mem_append,h.mem]
 constructor
 ·exact .inl
 rintro(h|h)
 ·exact h
 simp at h;subst h
 exact List.mem_of_getElem? (i:=m-1) (by rw[List.getElem?_take_of_lt (by omega)];exact hp)
theorem CompAt.more {L X:List aB} {k m:Nat} {p q:aB} (hL:L.Pairwise leC) (h:CompAt L X k m) (h0:0<m) (hq:L[m]? =some q) (hp:L[m-1]? =some p) (hne:q≠p):CompAt L (X.set k q) (k+1) (m+1):=by
 have hm:=(zJ hq)
 have hm':=(zJ hp)
 have hlt:=h.lt
 have hk:k<X.length:=by rw[h.len];have:=hm.1;omega
 have e:L.take (m+1)=L.take m++[q]:=by rw[List.take_add_one,hq];rfl
 have e2:(X.set k q).take (k+1)=X.take k++[q]:=by
  rw[List.take_add_one,List.getElem?_set_self hk,List.take_set,List.set_eq_of_length_le (by rw[List.length_take];omega)]
  rfl
 have hle: ∀c∈L.take m,ltC c q:=by
  intro c hc
  obtain⟨i,hi,rfl⟩:=List.getElem_of_mem hc
  rw[List.length_take]at hi
  rw[List.getElem_take]
  have hpq:leC p q:=by
   have:=List.pairwise_iff_getElem.1 hL (m-1) m hm'.1 hm.1 (by omega)
   rw[hm.2,hm'.2]at this
   exact this
  have hcp:L[i]'(by omega)=p∨leC (L[i]'(by omega)) p:=by
   by_cases e:i=m-1
   ·subst e;exact .inl hm'.2
   right
   have:=List.pairwise_iff_getElem.1 hL i (m-1) (by omega) hm'.1 (by omega)
   rw[hm'.2]at this
   exact this
  have hs:ltC p q:=by
   have hn: ¬(p.1=q.1∧p.2=q.2):=fun h=>hne (Prod.ext h.1.symm h.2.symm)
   unfold leC at hpq
   unfold ltC
   omega
  rcases hcp with e|hcp
  ·rw[e];exact hs
  unfold leC at hcp
  unfold ltC at hs⊢
  omega
 refine⟨by rw[List.length_set];exact h.len,by omega,?_,fun c=> ?_,fun j hj=> ?_⟩
 ·rw[e2,List.pairwise_append]
  refine⟨h.strict,List.pairwise_singleton _ _,fun a ha b hb=> ?_⟩
  simp at hb;subst hb
  exact hle a ((h.mem a).1 ha)
 ·rw[e2,e,List.mem_append,List.mem_append,h.mem]
 rw[List.getElem?_set_ne (by omega)]
 exact h.back j (by omega)
theorem aC8 {L:List aB} {k:Nat} {p q:aB} (hL:L.Pairwise leC) (hs:(L.take k).Pairwise ltC) (h0:0<k) (hq:L[k]? =some q) (hp:L[k-1]? =some p) (hne:q≠p):(L.take (k+1)).Pairwise ltC:=by
 have hm:=(zJ hq)
 have hm':=(zJ hp)
 have e:L.take (k+1)=L.take k++[q]:=by rw[List.take_add_one,hq];rfl
 rw[e,List.pairwise_append]
 refine⟨hs,List.pairwise_singleton _ _,fun a ha b hb=> ?_⟩
 obtain rfl:q=b:=(List.mem_singleton.1 hb).symm
 obtain⟨i,hi,rfl⟩:=List.getElem_of_mem ha
 rw[List.length_take]at hi
 rw[List.getElem_take]
 have hpq:leC p q:=by
  have:=List.pairwise_iff_getElem.1 hL (k-1) k hm'.1 hm.1 (by omega)
  rw[hm.2,hm'.2]at this
  exact this
 have hps:ltC p q:=by
  have hn: ¬(p.1=q.1∧p.2=q.2):=fun h=>hne (Prod.ext h.1.symm h.2.symm)
  unfold leC at hpq
  unfold ltC
  omega
 by_cases e:i=k-1
 ·subst e;rw[hm'.2];exact hps
 have:=List.pairwise_iff_getElem.1 hL i (k-1) (by omega) hm'.1 (by omega)
 rw[hm'.2]at this
 unfold leC at this
 unfold ltC at hps⊢
 omega
def fI (bx bw y:Int):List aB:=(List.range bw.toNat).map fun i:Nat=>(bx+(i:Int),y)
def gI (bx byy bw bh:Int):List aB:=(List.range bh.toNat).flatMap fun j:Nat=>fI bx bw (byy+(j:Int))
def gIn (L:List (aB×aB)) (c:aB):Bool:=L.any fun g=>cK g.1 c||cK g.2 c
def mG (bx byy bw bh:Int) (L:List (aB×aB)):List aB:=(gI bx byy bw bh).filter (gIn L)
def mH (W H s id:Int) (L:List (aB×aB)):List aB:=mG (aR W s id) (aO W s id) (aZ W s id) (bA W H s id) L
theorem boxRow_mem {bx bw y:Int} {c:aB}:c∈fI bx bw y↔bx≤c.1∧c.1<bx+bw∧c.2=y:=by
 unfold fI
 rw[List.mem_map]
 constructor
 ·rintro⟨i,hi,rfl⟩
  rw[List.mem_range]at hi
  exact⟨by simp only;omega,by simp only;omega,rfl⟩
 rintro⟨h1,h2,h3⟩
 refine⟨(c.1-bx).toNat,List.mem_range.2 (by omega),Prod.ext ?_ h3.symm⟩
 simp only
 omega
theorem jI {bx byy bw bh:Int} {c:aB}:c∈gI bx byy bw bh↔bx≤c.1∧c.1<bx+bw∧byy≤c.2∧c.2<byy+bh:=by
 unfold gI
 rw[List.mem_flatMap]
 constructor
 ·rintro⟨j,hj,hc⟩
  rw[List.mem_range]at hj
  rw[boxRow_mem]at hc
  omega
 rintro⟨h1,h2,h3,h4⟩
 exact⟨(c.2-byy).toNat,List.mem_range.2 (by omega),boxRow_mem.2 ⟨h1,h2,by omega⟩⟩
theorem xA (bx bw y:Int):(fI bx bw y).Pairwise ltC:=by
 unfold fI
 rw[List.pairwise_map]
 refine List.Pairwise.imp (fun {a b} h=> ?_) (List.pairwise_lt_range)
 unfold ltC
 right
 exact⟨rfl,by simp only;omega⟩
theorem mW (bx byy bw bh:Int):(gI bx byy bw bh).Pairwise ltC:=by
 unfold gI
 generalize bh.toNat=n
 induction n with
 |zero=>simp
 |succ n ih=>
  rw[List.range_succ,List.flatMap_append,List.pairwise_append]
  refine⟨ih,by simpa using xA bx bw _,fun a ha b hb=> ?_⟩
  rw[List.mem_flatMap]at ha
  obtain⟨j,hj,ha⟩:=ha
  rw[List.mem_range]at hj
  simp only[List.flatMap_cons,List.flatMap_nil,List.append_nil]at hb
  rw[boxRow_mem]at ha hb
  unfold ltC
  left
  omega
theorem xB (bx byy bw bh:Int) (L:List (aB×aB)):(mG bx byy bw bh L).Pairwise ltC:=(mW bx byy bw bh).filter _
theorem gIn_iff {L:List (aB×aB)} {c:aB}:gIn L c=true↔ ∃g∈L,g.1=c∨g.2=c:=by
 unfold gIn
 simp only[List.any_eq_true,Bool.or_eq_true,bB,decide_eq_true_eq]
def inK (W H s id:Int) (c:aB):Prop:=inB W H c.1 c.2=true∧ofN W s c.1 c.2=id
theorem gP {W H s id:Int} (hr:aK W H s=true) (h0:0≤id) (hid:id<cnt W H s) {L:List (aB×aB)} {c:aB}:c∈mH W H s id L↔inK W H s id c∧gIn L c=true:=by
 unfold mH mG
 rw[List.mem_filter]
 refine and_congr_left (fun _=> ?_)
 rw[jI]
 unfold inK
 have hb:=eM hr h0 hid
 have hs:=fJ hr h0 hid
 obtain⟨r1,r2,r3,r4,r5,r6⟩:=rightB_true.1 hr
 have key: ∀hi:inB W H c.1 c.2=true,(aR W s id≤c.1∧c.1<aR W s id+aZ W s id∧aO W s id≤c.2∧c.2<aO W s id+bA W H s id)↔ofN W s c.1 c.2=id:=fun hi=>by
  rw[show(ofN W s c.1 c.2=id)↔(id=ofN W s c.1 c.2) from eq_comm,←kB hr hi h0 hid]
  unfold dE bJ
  rw[hasB_true]
 constructor
 ·intro h
  have hi:inB W H c.1 c.2=true:=by
   rw[inB_true]
   unfold aZ bA at h hs
   omega
  exact⟨hi,(key hi).1 h⟩
 rintro⟨hi,he⟩
 exact(key hi).2 he
theorem lI (W H s id:Int) (L:List (aB×aB)):(mH W H s id L).Pairwise ltC:=xB _ _ _ _ _
theorem aDp {bx byy bw bh:Int} (L:List (aB×aB)) (h1:bw≤16) (h2:bh≤16):(mG bx byy bw bh L).length≤256:=by
 unfold mG
 refine Nat.le_trans (List.length_filter_le _ _) ?_
 unfold gI
 have: ∀n:Nat,n≤16→((List.range n).flatMap fun j:Nat=>fI bx bw (byy+(j:Int))).length≤n*16:=by
  intro n hn
  induction n with
  |zero=>simp
  |succ n ih=>
   rw[List.range_succ,List.flatMap_append,List.length_append]
   have h3:=ih (by omega)
   have h4:(fI bx bw (byy+(n:Int))).length≤16:=by unfold fI;simp;omega
   simp only[List.flatMap_cons,List.flatMap_nil,List.append_nil]
   omega
 have:=this bh.toNat (by omega)
 omega
theorem tA {W H s id:Int} (hr:aK W H s=true) (h0:0≤id) (hid:id<cnt W H s) (L:List (aB×aB)):(mH W H s id L).length≤256:=by
 have hs:=fJ hr h0 hid
 exact aDp L (by omega) (by omega)
end Go.Proofs.YtaellcgglldjaaaGreat

