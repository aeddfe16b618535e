/- Part of a proof: Lib. -/
import Derived.Test.YtaellcgglldjaaaGreatRows
import Derived.WalkKit
import Derived.WalkSpells
import Derived.Deep.RegionHeld3
import Derived.RowKit3
import Derived.Lib.Hide
import Derived.BigGuardPart
import Derived.OneCell
import Derived.Deep.QuietTactic
import Derived.BigQuiet
import Derived.LoopTactic
import Derived.Deep.LoopGhost
import Derived.Laws.OwnMore
import Derived.Maps.OwnSet
import Derived.Maps.AppendAt
import Derived.Deep.AppendLies
import Derived.Deep.RegionLaw
import Derived.OwnWalk
import Derived.RangeFuncNested
import Derived.RangeFuncBound
import Derived.RangeFuncCalls
import Derived.RangeFuncLeaves
import Derived.OwnWalkIn
set_option linter.all false
set_option linter.unusedVariables false
set_option linter.unusedSimpArgs false
namespace Go.Proofs.YtaellcgglldjaaaGreat
open Go.RowKit
theorem aA {p:Prop} (h:p):Hid p:=h
def Ext (w w':World):Prop:=Below w.heap.size w w'
theorem Ext.below {w w':World} (h:Ext w w'):Below w.heap.size w w':=h
theorem Ext.refl (w:World):Ext w w:=Below.refl _ _
theorem Ext.size {a b:World} (h:Ext a b):a.heap.size≤b.heap.size:=Below.size h
theorem Ext.trans {a b c:World} (h:Ext a b) (k:Ext b c):Ext a c:=Below.trans h (Below.mono k h.size)
theorem Ext.drew {a b:World} (h:Ext a b):Ext a b.drew:=Below.drew h
theorem Ext.drewN {a b:World} (h:Ext a b) (n:Nat):Ext a (b.drewN n):=⟨h.os,h.tape,h.output,h.size,fun k hk=>h.below.block k hk⟩
theorem Ext.alloc {a b:World} (h:Ext a b) (o:Obj):Ext a (b.alloc o):=Below.alloc h h.size o
theorem Ext.setCell {a b:World} (h:Ext a b) {p:Addr} (hp:a.heap.size≤p.block) (u:Value):Ext a (b.setCell p u):=Below.setCell h hp u
theorem z_r (w:World):Ext w w:=Ext.refl w
theorem z_t {a b c:World} (h:Ext a b) (k:Ext b c):Ext a c:=Ext.trans h k
theorem z_d {a b:World} (h:Ext a b):Ext a b.drew:=Ext.drew h
theorem z_n {a b:World} (h:Ext a b) (n:Nat):Ext a (b.drewN n):=Ext.drewN h n
theorem z_a {a b:World} (h:Ext a b) (o:Obj):Ext a (b.alloc o):=Ext.alloc h o
theorem z_s {a b:World} (h:Ext a b) {p:Addr} (hp:a.heap.size≤p.block) (u:Value):Ext a (b.setCell p u):=Ext.setCell h hp u
theorem z_x {w w':World} (h:Ext w w':=by(with_reducible (repeat' (first|exact z_r _|assumption|refine z_d ?_|refine z_n ?_ _|refine z_a ?_ _|refine z_s ?_ ?_ _|refine z_t ?_ (by assumption))));all_goals (simp<;>omega)):Ext w w':=h
theorem z_0 {α:Type} {l:List α} {i:Nat}:l.toArray[i]? =l[i]? :=by simp
theorem z_1 {α:Type} {a:α} {l:List α} {i:Nat}:(a::l)[i+1]? =l[i]? :=List.getElem?_cons_succ
theorem z_2 {α:Type} {a:α} {l:List α}:(a::l)[0]? =some a:=List.getElem?_cons_zero
theorem z_3 {α:Type} {l:List α} {i:Nat} {a:α}:l.toArray.setIfInBounds i a=(l.set i a).toArray:=by simp
theorem zz:(∀(a:Act) (d:Nat) (v:Value),Act.put a (some d) v={a with tmps:=a.tmps.setIfInBounds d v})∧(∀(a:Act) (v:Value),Act.put a none v=a)∧(∀(α:Type) (l:List α) (i:Nat) (a:α),l.toArray.setIfInBounds i a=(l.set i a).toArray)∧(∀(α:Type) (a b:α) (l:List α),(a::l).set 0 b=b::l)∧(∀(α:Type) (a b:α) (l:List α) (i:Nat),(a::l).set (i+1) b=a::l.set i b):=⟨fun _ _ _=>rfl,fun _ _=>rfl,fun _ _ _ _=>z_3,fun _ _ _ _=>rfl,fun _ _ _ _ _=>rfl⟩
theorem zS:(∀(w:World) (o:Obj),(w.alloc o).heap.size=w.heap.size+1)∧(∀(w:World),w.drew.heap.size=w.heap.size):=⟨fun _ _=>by simp,fun _=>by simp⟩
theorem zG {α:Type} {l:List α} {i:Nat} (h:i<l.length):l[i]? =some l[i]:=List.getElem?_eq_getElem h
theorem zJ {α:Type} {l:List α} {i:Nat} {a:α} (h:l[i]? =some a): ∃h:i<l.length,l[i]=a:=List.getElem?_eq_some_iff.1 h
theorem Ext.cell {a b:World} (h:Ext a b) {p:Addr} (hp:p.block<a.heap.size):b.cell? p=a.cell? p:=Below.cell h hp
theorem Ext.block {a b:World} (h:Ext a b) {k:Nat} (hk:k<a.heap.size):b.heap[k]? =a.heap[k]? :=Below.block h k hk
theorem Ext.cells {W w1:World} (hb:Ext W w1):(∀b o,b<W.heap.size→w1.cell? ⟨b,o,none⟩=W.cell? ⟨b,o,none⟩)∧(∀b o,b<W.heap.size→w1.frozen? ⟨b,o,none⟩=W.frozen? ⟨b,o,none⟩):=
 ⟨fun b o h=>Below.cell hb (p:=⟨b,o,none⟩) h,fun b o h=>Below.frozen hb (p:=⟨b,o,none⟩) h⟩
theorem Ext.grown {a b c:World} {row:Option Nat} (h:Ext a b) (hg:b.grownBy c row) (hr: ∀k,row=some k→a.heap.size≤k):Ext a c:=Below.grown h hg h.size hr
theorem bG (W0:World):(∀b o,b<W0.heap.size→W0.drew.cell? ⟨b,o,none⟩=W0.cell? ⟨b,o,none⟩)∧Ext W0 W0.drew:=
 ⟨fun _ _ _=>rfl,(Ext.refl _).drew⟩
theorem iV (w:World) (cs:Array Value) (t:TypeId): ∀j u,cs.toList[j]? =some u→(w.alloc (.cells cs t)).cell? ((⟨w.heap.size,0,none⟩:Addr).add j)=some u:=by
 intro j u hu
 have hadd:(⟨w.heap.size,0,none⟩:Addr).add j=⟨w.heap.size,j,none⟩:=by unfold Addr.add;split<;>simp_all
 rw[hadd]
 have:(w.alloc (.cells cs t)).heap[w.heap.size]? =some (.cells cs t):=heap_alloc_new w _
 simp only[World.cell?,this]
 simpa using hu
theorem Ext.of_below {a b c:World} {q:Nat} (h:Ext a b) (k:Below q b c) (hq:a.heap.size≤q):Ext a c:=Below.trans h (Below.mono k hq)
theorem kC (w:World) (o:Obj):(w.alloc o).heap[w.heap.size]? =some o:=heap_alloc_new w o
theorem aI {W0 W:World} (h:Ext W0 W):(∀b o,b<W0.heap.size→W.cell? ⟨b,o,none⟩=W0.cell? ⟨b,o,none⟩)∧Ext W0 W:=
 ⟨fun b o hlt=>h.cell (p:=⟨b,o,none⟩) hlt,h⟩
structure cH (P:Program) (t e:TypeId) (z:Value) (size bytes:Nat):Prop where
 under:P.underlying t=some (.slice e)
 info:(P.info? e).map (fun i=>(i.zero,i.size,i.bytes))=some (some z,size,bytes)
 zs:z.cells.size=size
 pos:0<size
structure Enc (α:Type) where
 size:Nat
 cells:α→List Value
 len: ∀a,(cells a).length=size
 one: ∀a,∀u∈cells a,u.oneCell'=true
theorem Enc.flat_len {α:Type} (E:Enc α) (l:List α):(l.flatMap E.cells).length=l.length*E.size:=by
 induction l with
 |nil=>simp
 |cons a l ih=>simp[ih,E.len,Nat.add_mul];omega
theorem Enc.flat_one {α:Type} (E:Enc α) (l:List α): ∀u∈l.flatMap E.cells,u.oneCell'=true:=by
 intro u hu
 obtain⟨a,_,h⟩:=List.mem_flatMap.1 hu
 exact E.one a u h
def Own {α:Type} (E:Enc α) (w:World) (base:Nat) (e:TypeId) (v:Value) (l:List α):Prop:=w.ownsRow base e E.size v l.length (l.flatMap E.cells)
theorem Own.nil {α:Type} (E:Enc α) (w:World) (base:Nat) (e:TypeId):Own E w base e (.slice none 0 0) []:=⟨by simp, .inl ⟨rfl,rfl⟩⟩
theorem Own.below {α:Type} {E:Enc α} {w w':World} {base:Nat} {e:TypeId} {v:Value} {l:List α} (h:Own E w base e v l) (hb:Below w.heap.size w w'):Own E w' base e v l:=by
 refine World.ownsRow.kept (row:=none) h ⟨hb.os,hb.tape,hb.output,hb.size,fun k hk _=>hb.block k hk⟩ ?_
 cases v.ownBlock<;>simp
theorem Own.ext {α:Type} {E:Enc α} {w w':World} {base:Nat} {e:TypeId} {v:Value} {l:List α} (h:Own E w base e v l) (hb:Ext w w'):Own E w' base e v l:=h.below hb
theorem Own.drew {α:Type} {E:Enc α} {w:World} {base:Nat} {e:TypeId} {v:Value} {l:List α} (h:Own E w base e v l):Own E w.drew base e v l:=h
theorem Own.alloc {α:Type} {E:Enc α} {w:World} {base:Nat} {e:TypeId} {v:Value} {l:List α} (h:Own E w base e v l) (o:Obj):Own E (w.alloc o) base e v l:=World.ownsRow.alloc h o
theorem Own.lower {α:Type} {E:Enc α} {w:World} {base base':Nat} {e:TypeId} {v:Value} {l:List α} (h:Own E w base e v l) (hb:base'≤base):Own E w base' e v l:=by
 refine⟨h.1,?_⟩
 rcases h.2 with hn|⟨g,cap,cur,hv,hg,r⟩
 ·exact .inl hn
 exact .inr ⟨g,cap,cur,hv,Nat.le_trans hb hg,r⟩
theorem Own.setCell {α:Type} {E:Enc α} {w:World} {base:Nat} {e:TypeId} {v:Value} {l:List α} (h:Own E w base e v l) {a:Addr} (ha:a.block<base) (u:Value):Own E (w.setCell a u) base e v l:=ownsRow_setCell_below h ha u
def Reads {α:Type} (E:Enc α) (w:World) (v:Value) (l:List α):Prop:=
 (v= .slice none 0 0∧l=[])∨ ∃b off cap,v= .slice (some ⟨b,off,none⟩) l.length cap∧b<w.heap.size∧ ∀(k:Nat) (a:α),l[k]? =some a→ ∀(j:Nat) (u:Value),(E.cells a)[j]? =some u→w.cell? ⟨b,off+(k*E.size+j),none⟩=some u
theorem cM {α:Type} (E:Enc α) (l:List α) (k:Nat) (a:α) (h:l[k]? =some a) (j:Nat) (u:Value) (hu:(E.cells a)[j]? =some u):(l.flatMap E.cells)[k*E.size+j]? =some u:=by
 induction l generalizing k with
 |nil=>simp at h
 |cons b l ih=>
  cases k with
  |zero=>
   simp at h;subst h
   have hj:j<(E.cells b).length:=(zJ hu).1
   simp[List.getElem?_append_left hj,hu]
  |succ k=>
   simp at h
   have:=ih k h
   rw[List.flatMap_cons,List.getElem?_append_right (by rw[E.len,Nat.add_mul];omega),E.len]
   rw[show(k+1)*E.size+j-E.size=k*E.size+j by rw[Nat.add_mul];omega]
   exact this
theorem Own.reads {α:Type} {E:Enc α} {w:World} {base:Nat} {e:TypeId} {v:Value} {l:List α} (h:Own E w base e v l):Reads E w v l:=by
 obtain⟨h1,h2⟩:=h
 rcases h2 with⟨rfl,h3⟩|⟨g,cap,cur,rfl,hb,hg,hn,hm,hs,ht⟩
 ·exact .inl ⟨rfl,List.eq_nil_of_length_eq_zero h3⟩
 refine .inr ⟨g,0,cap,rfl,lt_of_block hg,fun k a ha j u hu=> ?_⟩
 have hf:=cM E l k a ha j u hu
 rw[←ht,List.getElem?_take]at hf
 split at hf
 ·simp only[World.cell?,hg,Nat.zero_add]
  simpa using hf
 cases hf
theorem Reads.ext {α:Type} {E:Enc α} {w w':World} {v:Value} {l:List α} (h:Reads E w v l) (he:Ext w w'):Reads E w' v l:=by
 rcases h with h|⟨b,off,cap,hv,hb,h⟩
 ·exact .inl h
 exact .inr ⟨b,off,cap,hv,Nat.lt_of_lt_of_le hb he.size,fun k a ha j u hu=>(he.cell (p:=⟨b,_,none⟩) hb).trans (h k a ha j u hu)⟩
theorem Own.cons {α:Type} {E:Enc α} {w:World} {base:Nat} {e:TypeId} {v:Value} {l:List α} {y:α} (h:Own E w base e v (l++[y])): ∃g c,v= .slice (some ⟨g,0,none⟩) (l.length+1) c:=by
 rcases h.2 with⟨_,hn⟩|⟨g,cap,cur,hv,_⟩
 ·simp at hn
 exact⟨g,cap,by rw[hv];simp⟩
theorem Own.slice {α:Type} {E:Enc α} {w:World} {base:Nat} {e:TypeId} {v:Value} {l:List α} (h:Own E w base e v l): ∃a c,v= .slice a l.length c:=by
 rcases h.2 with⟨hv,hn⟩|⟨g,cap,cur,hv,_⟩
 ·exact⟨none,0,by rw[hv,hn]⟩
 exact⟨_,cap,hv⟩
theorem Reads.slice {α:Type} {E:Enc α} {w:World} {v:Value} {l:List α} (h:Reads E w v l): ∃a c,v= .slice a l.length c:=by
 rcases h with⟨hv,hn⟩|⟨b,off,cap,hv,_⟩
 ·exact⟨none,0,by rw[hv,hn];rfl⟩
 exact⟨_,cap,hv⟩
theorem aHi {α:Type} (E:Enc α) (w:World) (cs:Array Value) (t:TypeId) (l:List α) (h:cs.toList=l.flatMap E.cells) (b c n:Nat) (hb:b=w.heap.size) (hn:n=l.length):Reads E (w.alloc (.cells cs t)) (.slice (some ⟨b,0,none⟩) n c) l:=by
 subst hb;subst hn
 refine .inr ⟨_,0,c,rfl,by simp,fun k a ha j u hu=> ?_⟩
 have hf:=cM E l k a ha j u hu
 rw[←h]at hf
 have:=iV w cs t _ u hf
 have hadd:(⟨w.heap.size,0,none⟩:Addr).add (k*E.size+j)=⟨w.heap.size,0+(k*E.size+j),none⟩:=by unfold Addr.add;split<;>simp_all
 rw[hadd]at this
 exact this
theorem Own.lit0 {α:Type} (E:Enc α) (w:World) (base b:Nat) (e:TypeId) (hb:b=w.heap.size) (hbase:base≤b):Own E (w.alloc (.cells #[] e)) base e (.slice (some ⟨b,0,none⟩) 0 0) []:=by
 subst hb
 exact⟨by simp, .inr ⟨w.heap.size,0, #[],rfl,hbase,heap_alloc_new w _,Nat.le_refl _,Nat.zero_le _,by simp,by simp⟩⟩
theorem dA {α:Type} (E:Enc α) {P:Program} {t e:TypeId} {z:Value} {bytes:Nat} (T:cH P t e z E.size bytes) {ops:Array Oper} {rest:List Oper} {o:Oper} {a:Act} {Q:Exit→Act→World→Prop}
  (hgd:o.guard=none) (s x:Operand) (ho:o.op= .call {callee:= .builtin .append,args:= #[s,x],argTypes:= #[t,t]})
  (base:Nat) (w:World) (v:Value) (l:List α) (hs:a.eval s=v) (hown:Own E w base e v l)
  (y:α) (cs:Array Value) (e':TypeId) (hcs:cs=(E.cells y).toArray) (b:Nat) (hb:b=w.heap.size) (hx:a.eval x= .slice (some ⟨b,0,none⟩) 1 1)
  (hlen:(l.length+1)*bytes≤140737488355328) (hl:l.length≤1000000000) (hbase:base≤w.heap.size)
  (h: ∀g c w',Own E w' base e (.slice (some ⟨g,0,none⟩) (l.length+1) c) (l++[y])→Below base w w'→wpList P ops Q rest (a.put o.dst (.slice (some ⟨g,0,none⟩) (l.length+1) c)) w'):wpList P ops Q (o::rest) a (w.alloc (.cells cs e')):=by
 subst hb
 obtain⟨i0,hi,hz0,hz1,hz2⟩:=info_parts T.info
 have hnews:=iV w cs e'
 subst hcs
 refine wpList_append_own _ hgd s x t ho base e i0 z E.size bytes T.under hi hz0 hz1 hz2 T.zs T.pos v l.length (l.flatMap E.cells) hs (World.ownsRow.alloc hown _) ⟨w.heap.size,0,none⟩ 1 1 (E.cells y) hx (by simp[E.len]) (by simpa using hnews) (E.one y) (by unfold maxLen;omega) hlen (by simp;omega) ?_
 intro v' w' hown' hg _
 have hown'':Own E w' base e v' (l++[y]):=by unfold Own;simpa using hown'
 obtain⟨g,c,rfl⟩:=hown''.cons
 refine h g c w' hown'' ?_
 refine(((Below.refl base w).alloc hbase _).grown hg (by simp;omega) ?_)
 intro k hk
 exact(World.ownsRow.lt hown k hk).1
theorem iC {q:Nat} {W w1:World} (hb:Below q W w1): ∀b o,b<q→w1.cell? ⟨b,o,none⟩=W.cell? ⟨b,o,none⟩:=fun b o h=>hb.cell (p:=⟨b,o,none⟩) h
def intE:Enc Int:=⟨1,fun x=>[.int .i64 x],fun _=>rfl,fun _ u hu=>by simp at hu;subst hu;rfl⟩
theorem cN {a b A B:Int} (h1:0≤a) (h2:a≤A) (h3:0≤b) (h4:b≤B):0≤a*b∧a*b≤A*B:=
 ⟨Int.mul_nonneg h1 h3,Int.mul_le_mul h2 h4 h3 (by omega)⟩
theorem tD {a s A:Int} (h1:0≤a) (h2:a≤A) (h3:1≤s):0≤a/s∧a/s≤A:=
 ⟨Int.ediv_nonneg h1 (by omega),Int.le_trans (Int.ediv_le_self _ h1) h2⟩
theorem oK {a s:Int} (h1:0≤a) (h2:a≤9223372036854775807) (h3:1≤s):IntKind.i64.wrap (a.tdiv s)=a/s:=by
 rw[Int.tdiv_eq_ediv_of_nonneg h1]
 have:=tD h1 h2 h3
 exact IntWalk.i64_in _ (by omega)
theorem uZ {a s:Int} (h1:0≤a) (_h2:a≤9223372036854775807) (_h3:1≤s):a.tmod s=a% s:=Int.tmod_eq_emod_of_nonneg h1
theorem aCp {a s:Int} (h1:0≤a) (h3:1≤s):a% s≤a:=by
 have e:=Int.emod_add_mul_ediv a s
 have:=Int.mul_nonneg (show 0≤s by omega) (Int.ediv_nonneg h1 (show 0≤s by omega))
 omega
structure Touch (S:Nat→Prop) (w w':World):Prop where
 os:w'.os=w.os
 tape:w'.tape=w.tape
 output:w'.output=w.output
 size:w.heap.size≤w'.heap.size
 block: ∀k,k<w.heap.size→ ¬S k→w'.heap[k]? =w.heap[k]?
theorem Touch.refl (S:Nat→Prop) (w:World):Touch S w w:=⟨rfl,rfl,rfl,Nat.le_refl _,fun _ _ _=>rfl⟩
theorem Touch.trans {S:Nat→Prop} {a b c:World} (h:Touch S a b) (k:Touch S b c):Touch S a c:=
 ⟨k.os.trans h.os,k.tape.trans h.tape,k.output.trans h.output,Nat.le_trans h.size k.size,fun i hi hs=>(k.block i (Nat.lt_of_lt_of_le hi h.size) hs).trans (h.block i hi hs)⟩
theorem Touch.mono {S S':Nat→Prop} {a b:World} (h:Touch S a b) (hs: ∀k,k<a.heap.size→S k→S' k):Touch S' a b:=
 ⟨h.os,h.tape,h.output,h.size,fun i hi hn=>h.block i hi (fun hS=>hn (hs i hi hS))⟩
theorem Touch.of_ext {S:Nat→Prop} {a b:World} (h:Ext a b):Touch S a b:=⟨h.below.os,h.below.tape,h.below.output,h.size,fun i hi _=>h.below.block i hi⟩
theorem Touch.ext {a b:World} (h:Touch (fun _=>False) a b):Ext a b:=⟨h.os,h.tape,h.output,h.size,fun i hi=>h.block i hi (fun x=>x)⟩
theorem Touch.drew {S:Nat→Prop} {a b:World} (h:Touch S a b):Touch S a b.drew:=⟨h.os,h.tape,h.output,h.size,h.block⟩
theorem Touch.drewN {S:Nat→Prop} {a b:World} (h:Touch S a b) (n:Nat):Touch S a (b.drewN n):=⟨h.os,h.tape,h.output,h.size,h.block⟩
theorem Touch.alloc {S:Nat→Prop} {a b:World} (h:Touch S a b) (o:Obj):Touch S a (b.alloc o):=h.trans (Touch.of_ext ((Ext.refl b).alloc o))
theorem Touch.below {S:Nat→Prop} {a b:World} {B:Nat} (h:Below B a b) (hs: ∀k,k<a.heap.size→B≤k→S k):Touch S a b:=
 ⟨h.os,h.tape,h.output,h.size,fun i hi hn=>h.block i (Nat.lt_of_not_le fun hB=>hn (hs i hi hB))⟩
theorem Touch.to_below {S:Nat→Prop} {a b:World} {B:Nat} (h:Touch S a b) (hB:B≤a.heap.size) (hs: ∀k,S k→B≤k):Below B a b:=
 ⟨h.os,h.tape,h.output,h.size,fun i hi=>h.block i (Nat.lt_of_lt_of_le hi hB) (fun hS=>by have:=hs i hS;omega)⟩
theorem Touch.setCell {S:Nat→Prop} {a b:World} (h:Touch S a b) {p:Addr} (hp:S p.block∨a.heap.size≤p.block) (u:Value):Touch S a (b.setCell p u):=
 ⟨h.os,h.tape,h.output,by have:=h.size;simp[World.setCell];exact this,fun i hi hn=>(Below.heap_setCell b p u i (fun e=>by subst e;rcases hp with hp|hp;exact hn hp;omega)).trans (h.block i hi hn)⟩
theorem Touch.grown {S:Nat→Prop} {a b c:World} {row:Option Nat} (h:Touch S a b) (hg:b.grownBy c row) (hr: ∀k,row=some k→S k∨a.heap.size≤k):Touch S a c:=
 ⟨hg.os.trans h.os,hg.tape.trans h.tape,hg.output.trans h.output,Nat.le_trans h.size hg.size,fun i hi hn=>(hg.block i (Nat.lt_of_lt_of_le hi h.size) (fun e=>by
  rcases hr i e.symm with hr|hr
  ·exact hn hr
  omega)).trans (h.block i hi hn)⟩
theorem Touch.cell {S:Nat→Prop} {a b:World} (h:Touch S a b) {p:Addr} (hp:p.block<a.heap.size) (hs: ¬S p.block):b.cell? p=a.cell? p:=World.cell?_of_block (h.block _ hp hs)
theorem Touch.frozen {S:Nat→Prop} {a b:World} (h:Touch S a b) {p:Addr} (hp:p.block<a.heap.size) (hs: ¬S p.block):b.frozen? p=a.frozen? p:=World.frozen?_of_block (h.block _ hp hs)
theorem aF {α:Type} {E:Enc α} {w:World} {base:Nat} {e:TypeId} {v:Value} {l:List α} (h:Own E w base e v l) {k:Nat} (hk:v.ownBlock=some k):base≤k∧k<w.heap.size:=World.ownsRow.lt h k hk
theorem Own.touch {α:Type} {E:Enc α} {S:Nat→Prop} {w w':World} {base:Nat} {e:TypeId} {v:Value} {l:List α} (h:Own E w base e v l) (t:Touch S w w') (hs: ∀k,v.ownBlock=some k→ ¬S k):Own E w' base e v l:=by
 refine⟨h.1,?_⟩
 rcases h.2 with hn|⟨g,cap,cur,rfl,hb,hg,rest⟩
 ·exact .inl hn
 exact .inr ⟨g,cap,cur,rfl,hb,(t.block g (lt_of_block hg) (hs g rfl)).trans hg,rest⟩
theorem lN {H:Type} {P:Program} {k:TypeId} {R:Value→Option (DataW H×List MemPlace)} {S:Nat→Prop} {w w':World} {b n:Nat} {D:DataW H} (h:w.ownsMap P k R b n D) (t:Touch S w w') (hs: ¬S b):w'.ownsMap P k R b n D:=by
 have hlt:=h.lt
 obtain⟨es,clock,hb,r⟩:=h
 exact⟨es,clock,(t.block b hlt hs).trans hb,r⟩
def Blk (w:World) (g:Nat) (t:TypeId) (cs:Array Value):Prop:=w.heap[g]? =some (.cells cs t (0,0))
theorem Blk.lt {w:World} {g:Nat} {t:TypeId} {cs:Array Value} (h:Blk w g t cs):g<w.heap.size:=lt_of_block h
theorem Blk.cell {w:World} {g:Nat} {t:TypeId} {cs:Array Value} (h:Blk w g t cs) (i:Nat):w.cell? ⟨g,i,none⟩=cs[i]? :=by
 unfold Blk at h;simp[World.cell?,h]
theorem Blk.frozen {w:World} {g:Nat} {t:TypeId} {cs:Array Value} (h:Blk w g t cs) (i:Nat):w.frozen? ⟨g,i,none⟩=false:=by
 unfold Blk at h;simp[World.frozen?,h]
theorem Blk.new (w:World) (t:TypeId) (cs:Array Value):Blk (w.alloc (.cells cs t)) w.heap.size t cs:=heap_alloc_new w _
theorem Blk.touch {S:Nat→Prop} {w w':World} {g:Nat} {t:TypeId} {cs:Array Value} (h:Blk w g t cs) (k:Touch S w w') (hs: ¬S g):Blk w' g t cs:=(k.block g h.lt hs).trans h
theorem Blk.ext {w w':World} {g:Nat} {t:TypeId} {cs:Array Value} (h:Blk w g t cs) (k:Ext w w'):Blk w' g t cs:=(k.block h.lt).trans h
theorem Blk.set_ {w:World} {g:Nat} {t:TypeId} {cs:Array Value} (h:Blk w g t cs) (i:Nat) (u:Value):Blk (w.setCell ⟨g,i,none⟩ u) g t (cs.setIfInBounds i u):=by
 unfold Blk at h⊢
 simp[World.setCell,Array.getElem?_modify,h]
theorem Blk.far {w:World} {g:Nat} {t:TypeId} {cs:Array Value} (h:Blk w g t cs) {p:Addr} (hp:g≠p.block) (u:Value):Blk (w.setCell p u) g t cs:=(Below.heap_setCell w p u g hp).trans h
theorem Blk.ne_own {α:Type} {E:Enc α} {w:World} {base g:Nat} {e t:TypeId} {cs:Array Value} {v:Value} {l:List α} (h:Blk w g t cs) (o:Own E w base e v l) (hne:e≠t):v.ownBlock≠some g:=by
 rcases o.2 with⟨rfl,_⟩|⟨g',cap,cur,rfl,_,hg,_⟩
 ·simp[Value.ownBlock]
 intro he
 have e':g'=g:=by simpa [Value.ownBlock] using he
 subst e'
 unfold Blk at h
 rw[hg]at h
 injection h with h
 injection h with _ ht
 exact hne ht
theorem Blk.ne_map {H:Type} {P:Program} {k:TypeId} {R:Value→Option (DataW H×List MemPlace)} {w:World} {g:Nat} {t:TypeId} {cs:Array Value} {b n:Nat} {D:DataW H} (h:Blk w g t cs) (o:w.ownsMap P k R b n D):g≠b:=by
 obtain⟨es,clock,hb,_⟩:=o
 rintro rfl
 unfold Blk at h
 rw[hb]at h
 injection h with h
 cases h
theorem tS {H:Type} {P:Program} {k:TypeId} {R:Value→Option (DataW H×List MemPlace)} {α:Type} {E:Enc α} {w:World} {base:Nat} {e:TypeId} {v:Value} {l:List α} {b n:Nat} {D:DataW H} (h:Own E w base e v l) (o:w.ownsMap P k R b n D):v.ownBlock≠some b:=by
 obtain⟨es,clock,hb,_⟩:=o
 rcases h.2 with⟨rfl,_⟩|⟨g',cap,cur,rfl,_,hg,_⟩
 ·simp[Value.ownBlock]
 intro he
 have e':g'=b:=by simpa [Value.ownBlock] using he
 subst e'
 rw[hb]at hg
 injection hg with hg
 cases hg
theorem dD {α:Type} (E:Enc α) {P:Program} {t e:TypeId} {z:Value} {bytes:Nat} (T:cH P t e z E.size bytes) {ops:Array Oper} {rest:List Oper} {o:Oper} {a:Act} {Q:Exit→Act→World→Prop}
  (hgd:o.guard=none) (s x:Operand) (ho:o.op= .call {callee:= .builtin .append,args:= #[s,x],argTypes:= #[t,t]})
  (base:Nat) (w:World) (v:Value) (l:List α) (hs:a.eval s=v) (hown:Own E w base e v l)
  (y:α) (cs:Array Value) (e':TypeId) (hcs:cs=(E.cells y).toArray) (b:Nat) (hb:b=w.heap.size) (hx:a.eval x= .slice (some ⟨b,0,none⟩) 1 1)
  (hlen:(l.length+1)*bytes≤140737488355328) (hl:l.length≤1000000000) (hbase:base≤w.heap.size)
  (h: ∀g c w',Own E w' base e (.slice (some ⟨g,0,none⟩) (l.length+1) c) (l++[y])→Touch (fun k=>v.ownBlock=some k) w w'→(v.ownBlock=some g∨w.heap.size≤g)→wpList P ops Q rest (a.put o.dst (.slice (some ⟨g,0,none⟩) (l.length+1) c)) w'):wpList P ops Q (o::rest) a (w.alloc (.cells cs e')):=by
 subst hb
 obtain⟨i0,hi,hz0,hz1,hz2⟩:=info_parts T.info
 have hnews:=iV w cs e'
 subst hcs
 refine wpList_append_own_at _ hgd s x t ho base e i0 z E.size bytes T.under hi hz0 hz1 hz2 T.zs T.pos v l.length (l.flatMap E.cells) hs (World.ownsRow.alloc hown _) ⟨w.heap.size,0,none⟩ 1 1 (E.cells y) hx (by simp[E.len]) (by simpa using hnews) (E.one y) (by unfold maxLen;omega) hlen (by simp;omega) ?_
 intro v' w' hown' hg _ hloc
 have hown'':Own E w' base e v' (l++[y]):=by unfold Own;simpa using hown'
 obtain⟨g,c,rfl⟩:=hown''.cons
 refine h g c w' hown'' (((Touch.refl _ w).alloc _).grown hg (fun k hk=> .inl hk)) ?_
 simp only[Value.ownBlock,World.size_alloc,Option.some.injEq]at hloc
 rcases hloc with hloc|hloc
 ·exact .inl hloc.symm
 exact .inr (by omega)
theorem aK8 {α:Type} (E:Enc α) {P:Program} {t e:TypeId} {z:Value} {bytes:Nat} (T:cH P t e z E.size bytes) {ops:Array Oper} {o:Oper} {a:Act} {K:Act→World→Prop} {Q:Exit→Act→World→Prop} {F:Prop}
  (hgd:o.guard=none) (s x:Operand) (ho:o.op= .call {callee:= .builtin .append,args:= #[s,x],argTypes:= #[t,t]})
  (base:Nat) (w:World) (v:Value) (l:List α) (hs:a.eval s=v) (hown:Own E w base e v l)
  (y:α) (cs:Array Value) (e':TypeId) (hcs:cs=(E.cells y).toArray) (b:Nat) (hb:b=w.heap.size) (hx:a.eval x= .slice (some ⟨b,0,none⟩) 1 1)
  (hlen:(l.length+1)*bytes≤140737488355328) (hl:l.length≤1000000000) (hbase:base≤w.heap.size)
  (h: ∀g c w',Own E w' base e (.slice (some ⟨g,0,none⟩) (l.length+1) c) (l++[y])→Below base w w'→K (a.put o.dst (.slice (some ⟨g,0,none⟩) (l.length+1) c)) w'):
  if Region.wanted o (yielded ops a.tmps)=true then Oper.wp P o a (w.alloc (.cells cs e')) K Q else F:=by
 subst hb
 obtain⟨i0,hi,hz0,hz1,hz2⟩:=info_parts T.info
 have hnews:=iV w cs e'
 subst hcs
 refine step_append_lies _ hgd s x t ho base e i0 z E.size bytes T.under hi hz0 hz1 hz2 T.zs T.pos v l.length (l.flatMap E.cells) hs (World.ownsRow.alloc hown _) ⟨w.heap.size,0,none⟩ 1 1 (E.cells y) hx (by simp[E.len]) (by simpa using hnews) (E.one y) (by omega) (by unfold maxLen;omega) hlen (by simp;omega) _ rfl ?_
 intro g c w' hown' hg _ _
 have hown'':Own E w' base e (.slice (some ⟨g,0,none⟩) (l.length+1) c) (l++[y]):=by unfold Own;simpa using hown'
 refine h g c w' hown'' ?_
 refine(((Below.refl base w).alloc hbase _).grown hg (by simp;omega) ?_)
 intro k hk
 exact(World.ownsRow.lt hown k hk).1
theorem fX {α:Type} (E:Enc α) {P:Program} {t e:TypeId} {z:Value} {bytes:Nat} (T:cH P t e z E.size bytes) {ops:Array Oper} {o:Oper} {a:Act} {K:Act→World→Prop} {Q:Exit→Act→World→Prop} {F:Prop}
  (hgd:o.guard=none) (s x:Operand) (ho:o.op= .call {callee:= .builtin .append,args:= #[s,x],argTypes:= #[t,t]})
  (base:Nat) (w:World) (v:Value) (l:List α) (hs:a.eval s=v) (hown:Own E w base e v l)
  (y:α) (cs:Array Value) (e':TypeId) (hcs:cs=(E.cells y).toArray) (b:Nat) (hb:b=w.heap.size) (hx:a.eval x= .slice (some ⟨b,0,none⟩) 1 1)
  (hlen:(l.length+1)*bytes≤140737488355328) (hl:l.length≤1000000000) (hbase:base≤w.heap.size)
  (h: ∀g c w',Own E w' base e (.slice (some ⟨g,0,none⟩) (l.length+1) c) (l++[y])→Touch (fun k=>v.ownBlock=some k) w w'→(v.ownBlock=some g∨w.heap.size≤g)→K (a.put o.dst (.slice (some ⟨g,0,none⟩) (l.length+1) c)) w'):
  if Region.wanted o (yielded ops a.tmps)=true then Oper.wp P o a (w.alloc (.cells cs e')) K Q else F:=by
 subst hb
 obtain⟨i0,hi,hz0,hz1,hz2⟩:=info_parts T.info
 have hnews:=iV w cs e'
 subst hcs
 refine step_append_lies _ hgd s x t ho base e i0 z E.size bytes T.under hi hz0 hz1 hz2 T.zs T.pos v l.length (l.flatMap E.cells) hs (World.ownsRow.alloc hown _) ⟨w.heap.size,0,none⟩ 1 1 (E.cells y) hx (by simp[E.len]) (by simpa using hnews) (E.one y) (by omega) (by unfold maxLen;omega) hlen (by simp;omega) _ rfl ?_
 intro g c w' hown' hg hloc _
 have hown'':Own E w' base e (.slice (some ⟨g,0,none⟩) (l.length+1) c) (l++[y]):=by unfold Own;simpa using hown'
 refine h g c w' hown'' (((Touch.refl _ w).alloc _).grown hg (fun k hk=> .inl hk)) ?_
 simp only[World.size_alloc]at hloc
 rcases hloc with hloc|hloc
 ·exact .inl hloc
 exact .inr (by omega)
theorem lO {α:Type} (E:Enc α) {P:Program} {t e:TypeId} {z:Value} {bytes:Nat} (T:cH P t e z E.size bytes) {ops:Array Oper} {o:Oper} {a:Act} {K:Act→World→Prop} {Q:Exit→Act→World→Prop} {F:Prop}
  (hgd:o.guard=none) (s x:Operand) (ho:o.op= .call {callee:= .builtin .append,args:= #[s,x],argTypes:= #[t,t]})
  (base:Nat) (w:World) (v:Value) (l:List α) (hs:a.eval s=v) (hown:Own E w base e v l)
  (y:α) (cs:Array Value) (e':TypeId) (hcs:cs=(E.cells y).toArray) (b:Nat) (hb:b=w.heap.size) (hx:a.eval x= .slice (some ⟨b,0,none⟩) 1 1)
  (hlen:(l.length+1)*bytes≤140737488355328) (hl:l.length≤1000000000) (hbase:base≤w.heap.size)
  (h: ∀g c w',Own E w' base e (.slice (some ⟨g,0,none⟩) (l.length+1) c) (l++[y])→Touch (fun k=>v.ownBlock=some k) w w'→(v.ownBlock=some g∨w.heap.size≤g)→K (a.put o.dst (.slice (some ⟨g,0,none⟩) (l.length+1) c)) w'):
  if Region.wanted o (yielded ops a.tmps)=true then Oper.wp P o a (w.alloc (.cells cs e')).drew K Q else F:=
 fX E T hgd s x ho base w.drew v l hs hown y cs e' hcs b hb hx hlen hl hbase (fun g c w' o t hg=>h g c w' o ((Touch.refl _ w).drew.trans t) hg)
theorem Blk.at {w:World} {g:Nat} {t:TypeId} {cs:Array Value} (h:Blk w g t cs) (i:Nat) {v:Value} (hv:cs[i]? =some v):w.cell? ⟨g,i,none⟩=some v:=(h.cell i).trans hv
theorem Blk.new_ {w:World} {g:Nat} {t:TypeId} {cs:Array Value} (hg:g=w.heap.size):Blk (w.alloc (.cells cs t)) g t cs:=by subst hg;exact Blk.new w t cs
theorem Blk.over {w:World} {g:Nat} {t:TypeId} {cs:Array Value} {o:Obj} (h:Blk w g t cs):Blk (w.alloc o) g t cs:=h.ext ((Ext.refl w).alloc o)
theorem Blk.drew {w:World} {g:Nat} {t:TypeId} {cs:Array Value} (h:Blk w g t cs):Blk w.drew g t cs:=h
theorem aJl (z:Value) (hz:z.cells= #[z]) (n:Nat):(madeCells z.cells (n*1)).toList=List.replicate n z:=by
 unfold madeCells
 rw[hz,Nat.mul_one]
 apply List.ext_getElem?
 intro i
 simp only[Array.toList_map,Array.toList_range,List.getElem?_map]
 by_cases h:i<n
 ·rw[List.getElem?_range h,List.getElem?_replicate,if_pos h]
  simp[Nat.mod_one]
 rw[List.getElem?_eq_none (by simpa using h),List.getElem?_eq_none (by simpa using h)]
 rfl
theorem jZ {α:Type} (E:Enc α) {P:Program} {t e:TypeId} {z:Value} {bytes:Nat} (T:cH P t e z E.size bytes) (zero:α) (h1:E.size=1) (hzc:z.cells= #[z]) (hE:E.cells zero=[z])
  {ops:Array Oper} {rest:List Oper} {o:Oper} {a:Act} {Q:Exit→Act→World→Prop} {w:World}
  (hg:o.guard=none) (l c:Operand) (hop:o.op=Op.makeSlice t l c) (base n:Nat) (hl:a.eval l= .int .i64 (n:Int)) (hc:a.eval c= .int .i64 (n:Int)) (hn:n≤100000) (hby:bytes≤1000) (b4:base≤w.heap.size)
  (hK: ∀g w',g=w.heap.size→Own E w' base e (.slice (some ⟨g,0,none⟩) n n) (List.replicate n zero)→Ext w w'→wpList P ops Q rest (a.put o.dst (.slice (some ⟨g,0,none⟩) n n)) w'):
  wpList P ops Q (o::rest) a w:=by
 obtain⟨i0,hi,hz0,hz1,hz2⟩:=info_parts T.info
 have hb:bytes*n≤281474976710656:=Nat.le_trans (Nat.mul_le_mul hby hn) (by decide)
 refine wpList_make_full w hg l c t hop base e i0 z E.size T.under hi hz0 hz1 .i64 .i64 _ _ n hl hc rfl rfl (by rw[hz2];exact hb) (by unfold maxLen;omega) b4 ?_
 intro w' hown hgrow
 refine hK w.heap.size w' rfl ?_ ((Ext.refl w).grown hgrow (by simp))
 unfold Own
 rw[List.length_replicate]
 have hf:(List.replicate n zero).flatMap E.cells=(madeCells z.cells (n*E.size)).toList:=by
  rw[h1,aJl z hzc n]
  clear hown hgrow hb hK hl hc hn
  induction n with
  |zero=>rfl
  |succ n ih=>rw[List.replicate_succ,List.flatMap_cons,hE,List.replicate_succ,ih];rfl
 rw[hf]
 exact hown
def CellsAt:List (Addr×Value)→World→Prop
 |[],_=>True
 |p::r,w=>w.cell? p.1=some p.2∧CellsAt r w
theorem CellsAt.ext {w w':World} (hx:Ext w w'): ∀{L:List (Addr×Value)},CellsAt L w→CellsAt L w'
 |[],_=>trivial
 |p::_,h=>⟨(hx.cell (p:=p.1) (World.block_lt_of_cell? w p.1 h.1)).trans h.1,CellsAt.ext hx h.2⟩
theorem CellsAt.touch {S:Nat→Prop} {w w':World} (t:Touch S w w'): ∀{L:List (Addr×Value)},(∀p∈L,¬S p.1.block)→CellsAt L w→CellsAt L w'
 |[],_,_=>trivial
 |p::_,hs,h=>⟨(t.cell (p:=p.1) (World.block_lt_of_cell? w p.1 h.1) (hs p List.mem_cons_self)).trans h.1,CellsAt.touch t (fun q hq=>hs q (List.mem_cons_of_mem _ hq)) h.2⟩
theorem CellsAt.set {w:World} {a:Addr} {v:Value}: ∀{L:List (Addr×Value)},(∀p∈L,p.1≠a)→CellsAt L w→CellsAt L (w.setCell a v)
 |[],_,_=>trivial
 |p::_,hs,h=>⟨(World.cell?_setCell_other w a p.1 v (fun e=>hs p List.mem_cons_self e.symm)).trans h.1,CellsAt.set (fun q hq=>hs q (List.mem_cons_of_mem _ hq)) h.2⟩
theorem Own.lit1 {α:Type} (E:Enc α) (w:World) (base b:Nat) (e:TypeId) (y:α) (cs:Array Value) (hcs:cs=(E.cells y).toArray) (hb:b=w.heap.size) (hbase:base≤b):Own E (w.alloc (.cells cs e)) base e (.slice (some ⟨b,0,none⟩) 1 1) [y]:=by
 subst hb
 subst hcs
 refine⟨by simp[E.len], .inr ⟨w.heap.size,1,(E.cells y).toArray,rfl,hbase,heap_alloc_new w _,Nat.le_refl _,?_,?_,?_⟩⟩
 ·unfold maxLen;omega
 ·simp only[List.size_toArray,E.len,Nat.one_mul]
 have:=E.len y
 simp
 rw[List.take_of_length_le (by omega)]
theorem Reads.cells {α:Type} {E:Enc α} {w:World} {b off n c:Nat} {l:List α} (h:Reads E w (.slice (some ⟨b,off,none⟩) n c) l):b<w.heap.size∧n=l.length∧ ∀(k:Nat) (y:α),l[k]? =some y→ ∀(j:Nat) (u:Value),(E.cells y)[j]? =some u→w.cell? ⟨b,off+(k*E.size+j),none⟩=some u:=by
 rcases h with⟨h,_⟩|⟨b',off',cap',hv,hb,hc⟩
 ·cases h
 cases hv
 exact⟨hb,rfl,hc⟩
theorem jY {α:Type} (E:Enc α) {P:Program} {t e:TypeId} {z:Value} {bytes:Nat} (T:cH P t e z E.size bytes) {ops:Array Oper} {rest:List Oper} {o:Oper} {a:Act} {Q:Exit→Act→World→Prop} {w:World}
  (hgd:o.guard=none) (s x:Operand) (ho:o.op= .call {callee:= .builtin .append,args:= #[s,x],argTypes:= #[t,t]})
  (base:Nat) (v:Value) (l1 l2:List α) (hs:a.eval s=v) (hown:Own E w base e v l1)
  (b off c:Nat) (hx:a.eval x= .slice (some ⟨b,off,none⟩) l2.length c) (hc: ∀(k:Nat) (y:α),l2[k]? =some y→ ∀(j:Nat) (u:Value),(E.cells y)[j]? =some u→w.cell? ⟨b,off+(k*E.size+j),none⟩=some u)
  (hlen:(l1.length+l2.length)*bytes≤140737488355328) (hl:l1.length+l2.length≤1000000000) (hbase:base≤w.heap.size)
  (h: ∀v' w',Own E w' base e v' (l1++l2)→Below base w w'→wpList P ops Q rest (a.put o.dst v') w'):wpList P ops Q (o::rest) a w:=by
 obtain⟨i0,hi,hz0,hz1,hz2⟩:=info_parts T.info
 have hcells: ∀(j:Nat) (u:Value),(l2.flatMap E.cells)[j]? =some u→w.cell? ((⟨b,off,none⟩:Addr).add j)=some u:=by
  intro j u hu
  have hadd:(⟨b,off,none⟩:Addr).add j=⟨b,off+j,none⟩:=by unfold Addr.add;split<;>simp_all
  rw[hadd]
  have hpos:0<E.size:=T.pos
  have hjl:j<l2.length*E.size:=by
   have:=(zJ hu).1
   rw[E.flat_len]at this
   exact this
  have hk:j/E.size<l2.length:=Nat.div_lt_of_lt_mul (by rw[Nat.mul_comm];exact hjl)
  have hm:j% E.size<E.size:=Nat.mod_lt _ hpos
  have hj:j/E.size*E.size+j% E.size=j:=by rw[Nat.mul_comm];exact Nat.div_add_mod j E.size
  have hy:l2[j/E.size]? =some l2[j/E.size]:=zG hk
  obtain⟨u',hu'⟩: ∃u',(E.cells (l2[j/E.size]'hk))[j% E.size]? =some u':=⟨_,zG (Nat.lt_of_lt_of_eq hm (E.len _).symm)⟩
  have h2:=cM E l2 _ _ hy _ _ hu'
  rw[hj,hu]at h2
  injection h2 with h2
  have:=hc _ _ hy _ _ hu'
  rw[hj]at this
  rw[h2]
  exact this
 refine wpList_append_own _ hgd s x t ho base e i0 z E.size bytes T.under hi hz0 hz1 hz2 T.zs T.pos v l1.length (l1.flatMap E.cells) hs hown ⟨b,off,none⟩ l2.length c (l2.flatMap E.cells) hx (E.flat_len l2) hcells (E.flat_one l2) (by unfold maxLen;omega) hlen hbase ?_
 intro v' w' hown' hg _
 have hown'':Own E w' base e v' (l1++l2):=by
  unfold Own
  rw[List.length_append,List.flatMap_append]
  exact hown'
 refine h v' w' hown'' ?_
 refine(Below.refl base w).grown hg hbase ?_
 intro k hk
 exact(World.ownsRow.lt hown k hk).1
def eK (md:Region.Mode) (ops:Array Oper):List (Nat×Bool)→Array Bool→Bool
 |[],listed=>(Region.ready md ops listed).isEmpty
 |(i,true)::r,listed=>(Region.ready md ops listed).contains i&&Region.free md ops listed i&&eK md ops r (listed.setIfInBounds i true)
 |(i,false)::r,listed=>Region.ready md ops listed==[i]&&eK md ops r (listed.setIfInBounds i true)
def SeqH (P:Program) (ops:Array Oper) (Q:Exit→Act→World→Prop) (S:World→Prop):List (Nat×Bool)→Act→World→Prop
 |[],a,w=>Q .normal a w
 |(i,true)::r,a,w=> ∃oi v,ops[i]? =some oi∧YieldsIf P ops S oi v a∧SeqH P ops Q S r (a.put oi.dst v) w
 |(i,false)::r,a,w=> ∃oi,ops[i]? =some oi∧ ∀K':Act→World→Prop,Shut (∀a w,S w→(S w→SeqH P ops Q S r a w)→K' a w)→if Region.wanted oi (yielded ops a.tmps)=true then Oper.wp P oi a w K' Q else K' (a.put oi.dst undef) w
section
variable {P:Program} {ops:Array Oper} {Q:Exit→Act→World→Prop} {S:World→Prop}
theorem SeqH.free {i:Nat} {r:List (Nat×Bool)} {oi:Oper} {v:Value} {a:Act} {w:World} (hi:ops[i]? =some oi) (hy:YieldsIf P ops S oi v a) (h:SeqH P ops Q S r (a.put oi.dst v) w):SeqH P ops Q S ((i,true)::r) a w:=⟨oi,v,hi,hy,h⟩
theorem SeqH.fr2 {i:Nat} {r:List (Nat×Bool)} {oi:Oper} {v:Value} {a:Act} {w:World} (h:SeqH P ops Q S r (a.put oi.dst v) w) (hi:ops[i]? =some oi:=by simp only[z_0,z_1,z_2];rfl) (hy:YieldsIf P ops S oi v a:=by first|exact Or.inr ⟨by rfl,rfl⟩|(refine Or.inl ⟨by rfl,?_⟩;intro w hSw;(try dsimp only at hSw);simp only[CellsAt]at hSw;go_simp;try with_reducible rfl)):SeqH P ops Q S ((i,true)::r) a w:=SeqH.free hi hy h
theorem SeqH.fr1 {i:Nat} {r:List (Nat×Bool)} {oi:Oper} {v:Value} {a:Act} {w:World} (h:SeqH P ops Q S r (a.put oi.dst v) w) (hi:ops[i]? =some oi:=by simp only[z_0,z_1,z_2];rfl) (hy:YieldsIf P ops S oi v a:=by first|exact Or.inr ⟨by rfl,rfl⟩|(refine Or.inl ⟨by rfl,?_⟩;intro w hSw;(try dsimp only at hSw);go_simp;try with_reducible rfl)):SeqH P ops Q S ((i,true)::r) a w:=SeqH.free hi hy h
theorem SeqH.step {i:Nat} {r:List (Nat×Bool)} {oi:Oper} {a:Act} {w:World} (hi:ops[i]? =some oi) (h: ∀K':Act→World→Prop,Shut (∀a w,S w→(S w→SeqH P ops Q S r a w)→K' a w)→if Region.wanted oi (yielded ops a.tmps)=true then Oper.wp P oi a w K' Q else K' (a.put oi.dst undef) w):SeqH P ops Q S ((i,false)::r) a w:=⟨oi,hi,h⟩
theorem SeqH.done {a:Act} {w:World} (h:Q .normal a w):SeqH P ops Q S [] a w:=h
theorem SeqH.any {md:Region.Mode} (hs:Region.noSelect ops=true) (hQ: ∀c a d v w,Q (.panic c) (a.put d v) w→Q (.panic c) a w): ∀(r:List (Nat×Bool)) (fuel:Nat) (listed:Array Bool) (a:Act) (w:World),eK md ops r listed=true→r.length≤fuel→S w→SeqH P ops Q S r a w→wpAnyH P md ops Q S fuel listed a w
 |[],fuel,listed,a,w,hk,_,_,h=>wpAnyH_done (by unfold eK at hk;exact List.isEmpty_iff.1 hk) h fuel
 |(i,true)::r,0,_,_,_,_,hf,_,_=>absurd hf (by simp)
 |(i,false)::r,0,_,_,_,_,hf,_,_=>absurd hf (by simp)
 |(i,true)::r,fuel+1,listed,a,w,hk,hf,hS,h=>by
  unfold eK at hk
  simp only[Bool.and_eq_true]at hk
  obtain⟨oi,v,hi,hy,h⟩:=h
  exact wpAnyH_take hi hs hk.1.2 hk.1.1 (fun c a w=>hQ c a _ _ w) hy hS (SeqH.any hs hQ r fuel _ _ w hk.2 (by simpa using hf) hS h)
 |(i,false)::r,fuel+1,listed,a,w,hk,hf,hS,h=>by
  unfold eK at hk
  simp only[Bool.and_eq_true,beq_iff_eq]at hk
  obtain⟨oi,hi,h⟩:=h
  refine wpAnyH_ready hk.1 (by simp) (AllReadyH.cons hi (fun K hK=> ?_) AllReadyH.nil)
  exact h K (fun a' w' hS' hseq=>hK.out a' w' hS' (fun _=>SeqH.any hs hQ r fuel _ a' w' hk.2 (by simpa using hf) hS' (hseq hS')))
theorem bM {id:Nat} {a:Act} {w:World} (r:List (Nat×Bool)) (hm:P.follows .mixedOrders=true) (hs:Region.noSelect ops=true) (hk:eK .any ops r (Array.replicate ops.size false)=true) (hl:(r.length≤ops.size:Prop))
  (hQ: ∀c a d v w,Q (.panic c) (a.put d v) w→Q (.panic c) a w) (hS:S w.drew) (h:S w.drew→SeqH P ops Q S r a w.drew):(Code.region id ops true).wp P Q a w:=
 wp_region_held_drew hm hS (fun hS'=>SeqH.any hs hQ r _ _ _ _ hk hl hS' (h hS'))
theorem aS {P:Program} {ops:Array Oper} {Q:Exit→Act→World→Prop} {id:Nat} {a:Act} {w:World} (w0:World) (r:List (Nat×Bool)) (h:((∀b o,b<w0.heap.size→w.drew.cell? ⟨b,o,none⟩=w0.cell? ⟨b,o,none⟩)∧Ext w0 w.drew)→SeqH P ops Q (fun W=>(∀b o,b<w0.heap.size→W.cell? ⟨b,o,none⟩=w0.cell? ⟨b,o,none⟩)∧Ext w0 W) r a w.drew) (hm:P.follows .mixedOrders=true:=by kernel_rfl) (hs:Region.noSelect ops=true:=by kernel_rfl) (hk:eK .any ops r (Array.replicate ops.size false)=true:=by kernel_rfl) (hl:(r.length≤ops.size:Prop):=by decide) (hQ: ∀c a d v w,Q (.panic c) (a.put d v) w→Q (.panic c) a w:=by exact fun _ _ d _ _ h=>by cases d<;>exact h) (hS:(∀b o,b<w0.heap.size→w.drew.cell? ⟨b,o,none⟩=w0.cell? ⟨b,o,none⟩)∧Ext w0 w.drew:=by first|with_reducible exact bG _|exact aI z_x):(Code.region id ops true).wp P Q a w:=bM (S:=(fun W=>(∀b o,b<w0.heap.size→W.cell? ⟨b,o,none⟩=w0.cell? ⟨b,o,none⟩)∧Ext w0 W)) r hm hs hk hl hQ hS h
theorem aP {P:Program} {ops:Array Oper} {Q:Exit→Act→World→Prop} {S:World→Prop} {i:Nat} {r:List (Nat×Bool)} {oi:Oper} {a:Act} {w:World} (h: ∀K':Act→World→Prop,Shut (∀a w,S w→(S w→SeqH P ops Q S r a w)→K' a w)→if Region.wanted oi (yielded ops a.tmps)=true then Oper.wp P oi a w K' Q else K' (a.put oi.dst undef) w) (hi:ops[i]? =some oi:=by simp only[z_0,z_1,z_2];rfl):SeqH P ops Q S ((i,false)::r) a w:=SeqH.step hi h
theorem bE {P:Program} {ops:Array Oper} {Q:Exit→Act→World→Prop} {S:World→Prop} {md:Region.Mode} (i:Nat) {oi:Oper} {v:Value} {fuel:Nat} {listed:Array Bool} {a:Act} {w:World} (h:wpAnyH P md ops Q S fuel (listed.setIfInBounds i true) (a.put oi.dst v) w) (hi:ops[i]? =some oi:=by simp only[z_0,z_1,z_2];rfl) (hs:Region.noSelect ops=true:=by kernel_rfl) (hf:Region.free md ops listed i=true:=by kernel_rfl) (hr:(Region.ready md ops listed).contains i=true:=by kernel_rfl) (hQ: ∀c a w,Q (.panic c) (a.put oi.dst v) w→Q (.panic c) a w:=by exact fun _ _ _ h=>h) (hy:YieldsIf P ops S oi v a:=by first|exact Or.inr ⟨by rfl,rfl⟩|(refine Or.inl ⟨by rfl,?_⟩;intro w hSw;(try dsimp only at hSw);go_simp;try with_reducible rfl)) (hS:S w:=by assumption):wpAnyH P md ops Q S (fuel+1) listed a w:=wpAnyH_take hi hs hf hr hQ hy hS h
end
def ancs (md:Region.Mode) (ops:Array Oper):Nat→List Nat→List Nat
 |0,l=>l
 |k+1,l=>ancs md ops k (l++(l.flatMap fun i=>((ops[i]?).map fun o=>(o.after.toList.filter (fun e=>Region.binds md e)).map (·.on)).getD []))
def waits (md:Region.Mode) (ops:Array Oper) (L:Nat):List Nat:=ancs md ops ops.size (((ops[L]?).map fun o=>(o.after.toList.filter (fun e=>Region.binds md e)).map (·.on)).getD [])
section
variable {P:Program} {ops:Array Oper} {Q:Exit→Act→World→Prop} {S:World→Prop} {md:Region.Mode} {L:Nat}
def Kept (md:Region.Mode) (ops:Array Oper) (listed:Array Bool):Prop:= ∀(j:Nat) (o:Oper),listed.getD j false=true→ops[j]? =some o→ ∀e∈o.after,Region.binds md e=true→listed.getD e.on false=true
theorem Kept.start (n:Nat):Kept md ops (Array.replicate n false):=fun j o h=>by
 by_cases hj:j<n
 ·simp[hj]at h
 simp[hj]at h
theorem Kept.step {listed:Array Bool} (h:Kept md ops listed) {j:Nat} (hj:j∈Region.ready md ops listed):Kept md ops (listed.setIfInBounds j true):=fun k o hk ho e he hb=>by
 by_cases hjk:j=k
 ·subst hjk
  obtain⟨_,o',ho',hall⟩:=mem_ready.1 hj
  rw[ho]at ho'
  cases ho'
  exact getD_set_true (hall e he hb)
 rw[getD_set_ne false hjk]at hk
 exact getD_set_true (h k o hk ho e he hb)
theorem Kept.ancs {listed:Array Bool} (h:Kept md ops listed): ∀(k:Nat) (l:List Nat),(∀x∈l,listed.getD x false=true)→ ∀x∈ancs md ops k l,listed.getD x false=true
 |0,_,hl=>hl
 |k+1,l,hl=>Kept.ancs h k _ (by
  intro x hx
  rcases List.mem_append.1 hx with hx|hx
  ·exact hl x hx
  obtain⟨i,hi,hx⟩:=List.mem_flatMap.1 hx
  cases ho:ops[i]? with
  |none=>rw[ho]at hx;cases hx
  |some o=>
   rw[ho]at hx
   simp only[Option.map_some,Option.getD_some,List.mem_map,List.mem_filter,Array.mem_toList_iff]at hx
   obtain⟨e,⟨he,hb⟩,rfl⟩:=hx
   exact h i o (hl i hi) ho e he hb)
theorem Kept.waits {listed:Array Bool} (h:Kept md ops listed) {o:Oper} (ho:ops[L]? =some o) (hall: ∀e∈o.after,Region.binds md e=true→listed.getD e.on false=true): ∀x∈waits md ops L,listed.getD x false=true:=by
 refine Kept.ancs h _ _ ?_
 rw[ho]
 intro x hx
 simp only[Option.map_some,Option.getD_some,List.mem_map,List.mem_filter,Array.mem_toList_iff]at hx
 obtain⟨e,⟨he,hb⟩,rfl⟩:=hx
 exact hall e he hb
def wpAnyR (P:Program) (md:Region.Mode) (ops:Array Oper) (Q:Exit→Act→World→Prop) (S:World→Prop) (L:Nat):Nat→Array Bool→Act→World→Prop
 |0,listed,a,w=>Region.ready md ops listed=[]∧Q .normal a w
 |fuel+1,listed,a,w=>
  (Region.ready md ops listed=[]→Q .normal a w)∧
  ∀i∈Region.ready md ops listed,wpOp P ops Q i (fun a' w'=>(i≠L→S w')∧wpAnyR P md ops Q S L fuel (listed.setIfInBounds i true) a' w') a w
theorem wpAnyR.any: ∀(fuel:Nat) (listed:Array Bool) (a:Act) (w:World),wpAnyR P md ops Q S L fuel listed a w→wpAny P md ops Q fuel listed a w
 |0,_,_,_,h=>h
 |fuel+1,_,_,_,h=>⟨h.1,fun i hi=>wpOp_mono (fun a' w' h'=>wpAnyR.any fuel _ a' w' h'.2) (h.2 i hi)⟩
theorem wpAnyR.first {i:Nat} {oi:Oper} {v:Value} (hi:ops[i]? =some oi) (hsel: ∀(j:Nat) (o:Oper) cs b,ops[j]? =some o→o.op≠ .select cs b)
  (hQ: ∀c a w,Q (.panic c) (a.put oi.dst v) w→Q (.panic c) a w) (hL:i∈waits md ops L) (hiL:i≠L):
  ∀(fuel:Nat) (listed:Array Bool) (a:Act) (w:World),Kept md ops listed→
   (∀j oj,ops[j]? =some oj→j≠i→listed.getD j true=false→(∀e∈oj.after,Region.binds md e=true→e.on≠i)→oi.apart ops oj=true)→
   i∈Region.ready md ops listed→YieldsIf P ops S oi v a→S w→
   wpAnyR P md ops Q S L fuel (listed.setIfInBounds i true) (a.put oi.dst v) w→wpAnyR P md ops Q S L (fuel+1) listed a w:=by
 intro fuel
 induction fuel with
 |zero=>
  intro listed a w _ _ hr hy hS H
  refine⟨fun h=>(by rw[h]at hr;cases hr),fun j hj=> ?_⟩
  by_cases hji:j=i
  ·subst hji;exact hy.wpOp hi hS ⟨fun _=>hS,H⟩
  have:=ready_mono hj hji
  rw[H.1]at this
  cases this
 |succ fuel ih=>
  intro listed a w hkept hfree hr hy hS H
  refine⟨fun h=>(by rw[h]at hr;cases hr),fun j hj=> ?_⟩
  by_cases hji:j=i
  ·subst hji;exact hy.wpOp hi hS ⟨fun _=>hS,H⟩
  have h1:=H.2 j (ready_mono hj hji)
  obtain⟨hjun,oj,hoj,hall⟩:=mem_ready.1 hj
  have hiun:listed.getD i false=true→False:=fun h0=>by
   have h1:=(mem_ready.1 hr).1
   rcases Nat.lt_or_ge i listed.size with h'|h'
   ·simp[h']at h0 h1;rw[h0]at h1;cases h1
   simp[Array.getElem?_eq_none h']at h0
  have hjL:j≠L:=fun e=>by
   subst e
   exact hiun (hkept.waits hoj hall i hL)
  have hnot: ∀e∈oj.after,Region.binds md e=true→e.on≠i:=fun e he hb heq=>by
   have h1:=hall e he hb
   rw[heq]at h1
   exact hiun h1
  have h2:=wpOp_putIf hoj (hfree j oj hoj hji hjun hnot) (fun cs b=>hsel i oi cs b hi) (fun cs b=>hsel j oj cs b hoj) hQ hy h1
  have hfree': ∀k ok,ops[k]? =some ok→k≠i→(listed.setIfInBounds j true).getD k true=false→
    (∀e∈ok.after,Region.binds md e=true→e.on≠i)→oi.apart ops ok=true:=fun k ok hk hki hun hno=>by
   refine hfree k ok hk hki ?_ hno
   by_cases hjk:j=k
   ·subst hjk;exact hjun
   rw[getD_set_ne true hjk]at hun;exact hun
  refine wpOp_mono (fun a' w' h3=>⟨h3.2.1,ih (listed.setIfInBounds j true) a' w' (hkept.step hj) hfree' (ready_mono hr (Ne.symm hji)) h3.1 (h3.2.1 hjL) ?_⟩) h2
  rw[Array.setIfInBounds_comm _ _ hji]
  exact h3.2.2
def iQ (md:Region.Mode) (ops:Array Oper) (wt:List Nat) (L:Nat):List (Nat×Bool)→Array Bool→Bool
 |[],listed=>(Region.ready md ops listed).isEmpty
 |(i,true)::r,listed=>(Region.ready md ops listed).contains i&&Region.free md ops listed i&&(wt.contains i&& !(i==L))&&iQ md ops wt L r (listed.setIfInBounds i true)
 |(i,false)::r,listed=>Region.ready md ops listed==[i]&&(!(i==L)||r.all fun x=> !x.2)&&iQ md ops wt L r (listed.setIfInBounds i true)
def SeqR (P:Program) (ops:Array Oper) (Q:Exit→Act→World→Prop) (S:World→Prop) (L:Nat):List (Nat×Bool)→Act→World→Prop
 |[],a,w=>Q .normal a w
 |(i,true)::r,a,w=> ∃oi v,ops[i]? =some oi∧YieldsIf P ops S oi v a∧SeqR P ops Q S L r (a.put oi.dst v) w
 |(i,false)::r,a,w=> ∃oi,ops[i]? =some oi∧ ∀K':Act→World→Prop,Shut (∀a w,(i≠L→S w)→((i≠L→S w)→SeqR P ops Q S L r a w)→K' a w)→if Region.wanted oi (yielded ops a.tmps)=true then Oper.wp P oi a w K' Q else K' (a.put oi.dst undef) w
theorem SeqR.free {i:Nat} {r:List (Nat×Bool)} {oi:Oper} {v:Value} {a:Act} {w:World} (hi:ops[i]? =some oi) (hy:YieldsIf P ops S oi v a) (h:SeqR P ops Q S L r (a.put oi.dst v) w):SeqR P ops Q S L ((i,true)::r) a w:=⟨oi,v,hi,hy,h⟩
theorem SeqR.fr2 {i:Nat} {r:List (Nat×Bool)} {oi:Oper} {v:Value} {a:Act} {w:World} (h:SeqR P ops Q S L r (a.put oi.dst v) w) (hi:ops[i]? =some oi:=by simp only[z_0,z_1,z_2];rfl) (hy:YieldsIf P ops S oi v a:=by first|exact Or.inr ⟨by rfl,rfl⟩|(refine Or.inl ⟨by rfl,?_⟩;intro w hSw;(try dsimp only at hSw);simp only[CellsAt]at hSw;go_simp;try with_reducible rfl)):SeqR P ops Q S L ((i,true)::r) a w:=SeqR.free hi hy h
theorem SeqR.step {i:Nat} {r:List (Nat×Bool)} {oi:Oper} {a:Act} {w:World} (hi:ops[i]? =some oi) (h: ∀K':Act→World→Prop,Shut (∀a w,(i≠L→S w)→((i≠L→S w)→SeqR P ops Q S L r a w)→K' a w)→if Region.wanted oi (yielded ops a.tmps)=true then Oper.wp P oi a w K' Q else K' (a.put oi.dst undef) w):SeqR P ops Q S L ((i,false)::r) a w:=⟨oi,hi,h⟩
theorem SeqR.done {a:Act} {w:World} (h:Q .normal a w):SeqR P ops Q S L [] a w:=h
theorem SeqR.any (hs:Region.noSelect ops=true) (hQ: ∀c a d v w,Q (.panic c) (a.put d v) w→Q (.panic c) a w): ∀(r:List (Nat×Bool)) (fuel:Nat) (listed:Array Bool) (a:Act) (w:World),Kept md ops listed→iQ md ops (waits md ops L) L r listed=true→r.length≤fuel→(r≠[]→((∃x∈r,x.2=true)→S w))→SeqR P ops Q S L r a w→wpAnyR P md ops Q S L fuel listed a w
 |[],fuel,listed,a,w,_,hk,_,_,h=>by
  unfold iQ at hk
  have hr:=List.isEmpty_iff.1 hk
  cases fuel with
  |zero=>exact⟨hr,h⟩
  |succ f=>exact⟨fun _=>h,by rw[hr];simp⟩
 |(i,true)::r,0,_,_,_,_,_,hf,_,_=>absurd hf (by simp)
 |(i,false)::r,0,_,_,_,_,_,hf,_,_=>absurd hf (by simp)
 |(i,true)::r,fuel+1,listed,a,w,hkp,hk,hf,hS,h=>by
  unfold iQ at hk
  simp only[Bool.and_eq_true,Bool.not_eq_true',beq_eq_false_iff_ne]at hk
  obtain⟨oi,v,hi,hy,h⟩:=h
  have hrd:i∈Region.ready md ops listed:=by simpa using hk.1.1.1
  have hSw:=hS (by simp) ⟨_,List.mem_cons_self,rfl⟩
  refine wpAnyR.first hi (Region.noSelect_spec hs) (fun c a w=>hQ c a _ _ w) (by simpa using hk.1.2.1) hk.1.2.2 fuel listed a w hkp (Region.free_spec hi hk.1.1.2) hrd hy hSw ?_
  exact SeqR.any hs hQ r fuel _ _ w (hkp.step hrd) hk.2 (by simpa using hf) (fun _ _=>hSw) h
 |(i,false)::r,fuel+1,listed,a,w,hkp,hk,hf,hS,h=>by
  unfold iQ at hk
  simp only[Bool.and_eq_true,beq_iff_eq]at hk
  obtain⟨oi,hi,h⟩:=h
  have hrd:i∈Region.ready md ops listed:=by rw[hk.1.1];simp
  refine⟨fun h0=>absurd (hk.1.1▸h0) (by simp),?_⟩
  rw[hk.1.1]
  intro j hj
  obtain rfl:=List.mem_singleton.1 hj
  refine wpOp_step hi (fun K' hK=>h K' (fun a' w' hS' hseq=>hK a' w' ⟨hS',SeqR.any hs hQ r fuel _ a' w' (hkp.step hrd) hk.2 (by simpa using hf) (fun _ hx=> ?_) (hseq hS')⟩))
  refine hS' (fun e=> ?_)
  subst e
  obtain⟨x,hx,hx2⟩:=hx
  have:=hk.1.2
  simp only[beq_self_eq_true,Bool.not_true,Bool.false_or,List.all_eq_true,Bool.not_eq_true']at this
  rw[this x hx]at hx2
  cases hx2
theorem jW {id:Nat} {a:Act} {w:World} (L:Nat) (r:List (Nat×Bool)) (hm:P.follows .mixedOrders=true) (hs:Region.noSelect ops=true) (hk:iQ .any ops (waits .any ops L) L r (Array.replicate ops.size false)=true) (hl:(r.length≤ops.size:Prop))
  (hQ: ∀c a d v w,Q (.panic c) (a.put d v) w→Q (.panic c) a w) (hS:S w.drew) (h:S w.drew→SeqR P ops Q S L r a w.drew):(Code.region id ops true).wp P Q a w:=
 wp_region_any hm (wpAnyR.any _ _ _ _ (SeqR.any hs hQ r _ _ _ _ (Kept.start _) hk hl (fun _ _=>hS) (h hS)))
end
inductive Ord where
 |done:Ord
 |take:Nat→Ord→Ord
 |step:Nat→Ord→Ord→Ord
 |shut:Ord
def Ord.chain:Ord→List Nat
 | .step i _ o=>i::o.chain
 |_=>[]
def Ord.depth:Ord→Nat
 | .take _ r=>r.depth+1
 | .step _ r o=>max (r.depth+1) o.depth
 |_=>0
def jS (md:Region.Mode) (ops:Array Oper):Bool→Ord→Array Bool→Bool
 |_, .done,listed=>(Region.ready md ops listed).isEmpty
 |_, .take i r,listed=>(Region.ready md ops listed).contains i&&Region.free md ops listed i&&jS md ops true r (listed.setIfInBounds i true)
 |top, .step i r o,listed=>(!top||Region.ready md ops listed==i::o.chain)&&jS md ops true r (listed.setIfInBounds i true)&&jS md ops false o listed
 |top, .shut,_=> !top
def SeqT (P:Program) (ops:Array Oper) (Q:Exit→Act→World→Prop) (S:World→Prop):Ord→Act→World→Prop
 | .done,a,w=>Q .normal a w
 | .take i r,a,w=> ∃oi v,ops[i]? =some oi∧YieldsIf P ops S oi v a∧SeqT P ops Q S r (a.put oi.dst v) w
 | .step i r o,a,w=>(∃oi,ops[i]? =some oi∧ ∀K':Act→World→Prop,Shut (∀a w,S w→(S w→SeqT P ops Q S r a w)→K' a w)→if Region.wanted oi (yielded ops a.tmps)=true then Oper.wp P oi a w K' Q else K' (a.put oi.dst undef) w)∧SeqT P ops Q S o a w
 | .shut,_,_=>True
section
variable {P:Program} {ops:Array Oper} {Q:Exit→Act→World→Prop} {S:World→Prop}
theorem SeqT.free {i:Nat} {r:Ord} {oi:Oper} {v:Value} {a:Act} {w:World} (hi:ops[i]? =some oi) (hy:YieldsIf P ops S oi v a) (h:SeqT P ops Q S r (a.put oi.dst v) w):SeqT P ops Q S (.take i r) a w:=⟨oi,v,hi,hy,h⟩
theorem SeqT.fr1 {i:Nat} {r:Ord} {oi:Oper} {v:Value} {a:Act} {w:World} (h:SeqT P ops Q S r (a.put oi.dst v) w) (hi:ops[i]? =some oi:=by simp only[z_0,z_1,z_2];rfl) (hy:YieldsIf P ops S oi v a:=by first|exact Or.inr ⟨by rfl,rfl⟩|(refine Or.inl ⟨by rfl,?_⟩;intro w hSw;(try dsimp only at hSw);go_simp;try with_reducible rfl)):SeqT P ops Q S (.take i r) a w:=SeqT.free hi hy h
theorem SeqT.step {i:Nat} {r o:Ord} {oi:Oper} {a:Act} {w:World} (hi:ops[i]? =some oi) (h: ∀K':Act→World→Prop,Shut (∀a w,S w→(S w→SeqT P ops Q S r a w)→K' a w)→if Region.wanted oi (yielded ops a.tmps)=true then Oper.wp P oi a w K' Q else K' (a.put oi.dst undef) w) (ho:SeqT P ops Q S o a w):SeqT P ops Q S (.step i r o) a w:=⟨⟨oi,hi,h⟩,ho⟩
theorem SeqT.last {i:Nat} {r:Ord} {oi:Oper} {a:Act} {w:World} (hi:ops[i]? =some oi) (h: ∀K':Act→World→Prop,Shut (∀a w,S w→(S w→SeqT P ops Q S r a w)→K' a w)→if Region.wanted oi (yielded ops a.tmps)=true then Oper.wp P oi a w K' Q else K' (a.put oi.dst undef) w):SeqT P ops Q S (.step i r .shut) a w:=⟨⟨oi,hi,h⟩,trivial⟩
theorem SeqT.fin {a:Act} {w:World} (h:Q .normal a w):SeqT P ops Q S .done a w:=h
theorem SeqT.any {md:Region.Mode} (hs:Region.noSelect ops=true) (hQ: ∀c a d v w,Q (.panic c) (a.put d v) w→Q (.panic c) a w): ∀(r:Ord) (top:Bool) (fuel:Nat) (listed:Array Bool) (a:Act) (w:World),jS md ops top r listed=true→S w→SeqT P ops Q S r a w→
  (top=true→r.depth≤fuel→wpAnyH P md ops Q S fuel listed a w)∧(top=false→r.depth≤fuel+1→AllReadyH P md ops Q S fuel listed a w r.chain)
 | .done,top,fuel,listed,a,w,hk,_,h=>⟨fun _ _=>wpAnyH_done (by unfold jS at hk;exact List.isEmpty_iff.1 hk) h fuel,fun _ _=>AllReadyH.nil⟩
 | .shut,top,fuel,listed,a,w,hk,_,_=>⟨fun ht _=>(by subst ht;unfold jS at hk;cases hk),fun _ _=>AllReadyH.nil⟩
 | .take i r,top,fuel,listed,a,w,hk,hS,h=>by
  refine⟨fun _ hd=> ?_,fun _ _=>AllReadyH.nil⟩
  unfold jS at hk
  simp only[Bool.and_eq_true]at hk
  obtain⟨oi,v,hi,hy,h⟩:=h
  cases fuel with
  |zero=>exact absurd hd (by simp[Ord.depth])
  |succ fuel=>exact wpAnyH_take hi hs hk.1.2 hk.1.1 (fun c a w=>hQ c a _ _ w) hy hS ((SeqT.any hs hQ r true fuel _ _ w hk.2 hS h).1 rfl (by simpa [Ord.depth] using hd))
 | .step i r o,top,fuel,listed,a,w,hk,hS,h=>by
  unfold jS at hk
  simp only[Bool.and_eq_true]at hk
  obtain⟨⟨oi,hi,h⟩,ho⟩:=h
  have key: ∀f,max (r.depth+1) o.depth≤f+1→AllReadyH P md ops Q S f listed a w (i::o.chain):=fun f hd=>
   AllReadyH.cons hi (fun K hK=>h K (fun a' w' hS' hseq=>hK.out a' w' hS' (fun _=>(SeqT.any hs hQ r true f _ a' w' hk.1.2 hS' (hseq hS')).1 rfl (by omega)))) ((SeqT.any hs hQ o false f listed a w hk.2 hS ho).2 rfl (by omega))
  refine⟨fun ht hd=> ?_,fun _ hd=>key fuel hd⟩
  subst ht
  have hr:=hk.1.1
  simp only[Bool.not_true,Bool.false_or,beq_iff_eq]at hr
  cases fuel with
  |zero=>exact absurd hd (by simp only[Ord.depth];omega)
  |succ fuel=>exact wpAnyH_ready hr (by simp) (key fuel hd)
theorem SeqT.named {r:Ord} {a:Act} {X:World} {cs:Array Value} {t:TypeId} (h: ∀w7,Blk w7 X.heap.size t cs→Ext X w7→w7.heap.size=X.heap.size+1→S w7→SeqT P ops Q S r a w7) (hS:S (X.alloc (.cells cs t))):SeqT P ops Q S r a (X.alloc (.cells cs t)):=
 h _ (Blk.new _ _ _) ((Ext.refl _).alloc _) (by simp) hS
theorem SeqT.namedD {r:Ord} {a:Act} {X:World} {cs:Array Value} {t:TypeId} (h: ∀w7,Blk w7 X.heap.size t cs→Ext X w7→w7.heap.size=X.heap.size+1→S w7→SeqT P ops Q S r a w7) (hS:S (X.alloc (.cells cs t)).drew):SeqT P ops Q S r a (X.alloc (.cells cs t)).drew:=
 h _ (Blk.new _ _ _).drew (((Ext.refl _).alloc _).drew) (by simp) hS
theorem mA {id:Nat} {a:Act} {w:World} (r:Ord) (hm:P.follows .mixedOrders=true) (hs:Region.noSelect ops=true) (hk:jS .any ops true r (Array.replicate ops.size false)=true) (hl:(r.depth≤ops.size:Prop))
  (hQ: ∀c a d v w,Q (.panic c) (a.put d v) w→Q (.panic c) a w) (hS:S w.drew) (h:S w.drew→SeqT P ops Q S r a w.drew):(Code.region id ops true).wp P Q a w:=
 wp_region_held_drew hm hS (fun hS'=>(SeqT.any hs hQ r true _ _ _ _ hk hS' (h hS')).1 rfl hl)
end
def qR {α:Type} (P:Program) (gf:Nat) (lb:Array Value) (encs:α→Array Value) (xs:List α) (R:Nat→Prop) (w:World):Prop:=
 ∀(l:Nat) (J:(Nat→Prop)→List α→World→Prop) (W:World),Ext w W→
  (∀T pre W1 o,J T pre W1→J (fun k=>T k∨k=W1.heap.size) pre (W1.alloc o))→
  (∀T pre W1 W2,J T pre W1→Ext W1 W2→J T pre W2)→
  (∀T pre W1 p u,J T pre W1→T p.block→J T pre (W1.setCell p u))→
  (∀T pre x W1,J T pre W1→pre++[x]<+:xs→YieldAt Fence.wide 3 P l (encs x) W1 fun e W'=>e= .returned (.bool true)∧J T (pre++[x]) W'∧Touch (fun k=> ¬T k∧ ¬R k) W1 W')→
  J (fun _=>False) [] W→
  Calls P gf (#[.func (.yield l) #[] #[]]++lb) W fun e W'=>(∃v,e= .returned v)∧ ∃T,J T xs W'
theorem cZ {W:World} (k:Nat) (o:Obj):Touch (fun j=>j=k) W (W.putObj k o):=
 ⟨rfl,rfl,rfl,by simp,fun i _ hn=>World.putObj_heap_other hn⟩
theorem uI {α:Type} {P:Program} {n:Nat} {g:Operand} {ps:Array Tmp} {assign body:Code} {Q:Exit→Act→World→Prop} {a:Act} {w:World} {gf:Nat} {lb:Array Value} {encs:α→Array Value} {xs:List α} {R:Nat→Prop}
  (hg:a.eval g= .func (.func gf) #[] lb) (eg: ∀args w,(callFunc gf args).run P w= .ok (.enter gf args) w) (hseq:qR P gf lb encs xs R w) (hps: ∀x,(encs x).size=ps.size)
  (I:(Nat→Prop)→List α→World→Prop) (Ax:α→Act→World→Prop) (hR: ∀k,R k→k<w.heap.size)
  (hO: ∀T pre W1 W2,I T pre W1→Touch (fun k=>k=w.heap.size∨k=w.heap.size+1) W1 W2→I T pre W2)
  (hA: ∀T pre W1 o,I T pre W1→I (fun k=>T k∨k=W1.heap.size) pre (W1.alloc o))
  (hE: ∀T pre W1 W2,I T pre W1→Ext W1 W2→I T pre W2)
  (hS: ∀T pre W1 p u,I T pre W1→T p.block→I T pre (W1.setCell p u))
  (hAx: ∀x a' W1 W2,Ax x a' W1→Touch (fun k=>k=w.heap.size∨k=w.heap.size+1) W1 W2→Ax x a' W2)
  (h0:I (fun _=>False) [] w)
  (hassign: ∀T pre x W1 (K:Act→World→Prop),I T pre W1→w.heap.size+2≤W1.heap.size→(∀a' W2,Ext W1 W2→Ax x a' W2→K a' W2)→
   assign.wpIn (Fence.wide.inRound (w.heap.size+1)) 3 P (Exit.then K (fun _ _ _=>False)) {tmps:=(ps.zip (encs x)).foldl (fun t (p,v)=>t.setIfInBounds p v) a.tmps,defers:=[]} W1)
  (hbody: ∀T pre x a' W1,I T pre W1→Ax x a' W1→w.heap.size+2≤W1.heap.size→pre++[x]<+:xs→body.wpIn (Fence.wide.inRound (w.heap.size+1)) 3 P
   (fun e _ W2=>e= .normal∧I T (pre++[x]) W2∧Touch (fun k=> ¬T k∧ ¬R k∧k≠w.heap.size∧k≠w.heap.size+1) W1 W2) a' W1)
  (hdone: ∀T W1,I T xs W1→W1.heap[w.heap.size]? =some (.deferred (some []))→Q .normal {a with defers:={target:= .collected w.heap.size,args:= #[]}::a.defers} W1):
  (Code.rangeFunc g ps assign body).wpIn Fence.wide n P Q a w:=by
 refine wpIn_rangeFunc ?_
 intro fn hfn
 obtain⟨rec,hrec⟩: ∃rec:LoopState→Option Code→Loop,rec=fun st pe=>{state:=st,pending:=pe,fn,tmps:=a.tmps,params:=ps,assign,body,defers:=w.heap.size}:=⟨_,rfl⟩
 obtain⟨W1,hW1⟩: ∃W1,(w.alloc (.deferred (some []))).alloc (.loop (rec .ready none))=W1:=⟨_,rfl⟩
 have hL1:W1.heap[w.heap.size+1]? =some (.loop (rec .ready none)):=by
  rw[←hW1];have:=World.alloc_heap_new (w.alloc (.deferred (some []))) (.loop (rec .ready none));rwa [World.size_alloc]at this
 have hK1:W1.heap[w.heap.size]? =some (.deferred (some [])):=by
  rw[←hW1];exact(Below.heap_alloc _ _ _ (by simp)).trans (World.alloc_heap_new w _)
 have hx1:Ext w W1:=by rw[←hW1];exact((Ext.refl w).alloc _).alloc _
 have hI1:I (fun _=>False) [] W1:=hE _ _ _ _ h0 hx1
 have hz1:w.heap.size+2≤W1.heap.size:=by rw[←hW1];simp
 refine⟨w.heap.size+1,[{target:= .collected w.heap.size,args:= #[]}],W1,{target:= .fn (.func gf) lb,args:= #[.func (.yield (w.heap.size+1)) #[] #[]]},W1,gf,
  #[.func (.yield (w.heap.size+1)) #[] #[]]++lb,W1,?_,?_,?_,?_,fun h=>by simp[Fence.wide]at h,?_⟩
 ·rw[←hW1,hrec];exact run_enterLoop_outer _ _ _ _ _
 ·simp only[resolve,hg]
  simp[go_sem]
 ·intro f' _;exact trivial
 ·simp[invoke,go_sem,eg]
 refine callsIn_wide.2 ((hseq (w.heap.size+1)
  (fun T pre W=>I T pre W∧ ¬T w.heap.size∧ ¬T (w.heap.size+1)∧w.heap.size+2≤W.heap.size∧W.heap[w.heap.size+1]? =some (.loop (rec .ready none))∧W.heap[w.heap.size]? =some (.deferred (some [])))
  W1 hx1 ?_ ?_ ?_ ?_ ⟨hI1,fun x=>x,fun x=>x,hz1,hL1,hK1⟩).mono ?_)
 ·rintro T pre W o ⟨i,t1,t2,z,hl,hk⟩
  refine⟨hA _ _ _ _ i,fun h=>h.elim t1 (fun e=>by omega),fun h=>h.elim t2 (fun e=>by omega),by simp;omega,?_,?_⟩
  ·exact(Below.heap_alloc _ _ _ (by omega)).trans hl
  exact(Below.heap_alloc _ _ _ (by omega)).trans hk
 ·rintro T pre W W' ⟨i,t1,t2,z,hl,hk⟩ e
  exact⟨hE _ _ _ _ i e,t1,t2,Nat.le_trans z e.size,(e.block (by omega)).trans hl,(e.block (by omega)).trans hk⟩
 ·rintro T pre W p u ⟨i,t1,t2,z,hl,hk⟩ hp
  have tt:Touch (fun k=>k=p.block) W (W.setCell p u):=(Touch.refl (fun k=>k=p.block) W).setCell (.inl rfl) u
  exact⟨hS _ _ _ _ _ i hp,t1,t2,Nat.le_trans z tt.size,(tt.block (w.heap.size+1) (by omega) (fun e=>t2 (by rw[show w.heap.size+1=p.block from e];exact hp))).trans hl,(tt.block w.heap.size (by omega) (fun e=>t1 (by rw[show w.heap.size=p.block from e];exact hp))).trans hk⟩
 ·rintro T pre x W ⟨i,t1,t2,z,hl,hk⟩ hpre
  have hy:=run_yield (P:=P) (args:=encs x) hl (by rw[hrec];exact hps x)
  rw[hrec]at hy
  refine⟨fn,_,assign,body,hy,roundIn_of_wpIn hfn (hassign T pre x W _ i z ?_)⟩
  clear hy
  intro a' W2 e2 ax
  have hl2:=(e2.block (k:=w.heap.size+1) (by omega)).trans hl
  have hk2:=(e2.block (k:=w.heap.size) (by omega)).trans hk
  have i2:=hE _ _ _ _ i e2
  have z2:=Nat.le_trans z e2.size
  refine⟨_,run_beginRound hl2 (by rw[hrec]),?_⟩
  obtain⟨W3,hW3⟩: ∃W3,W2.putObj (w.heap.size+1) (.loop {rec .ready none with state:= .busy})=W3:=⟨_,rfl⟩
  have t3:Touch (fun k=>k=w.heap.size+1) W2 W3:=by rw[←hW3];exact cZ _ _
  have hl3:W3.heap[w.heap.size+1]? =some (.loop {rec .ready none with state:= .busy}):=by rw[←hW3];exact World.putObj_heap_same (by omega)
  have hk3:W3.heap[w.heap.size]? =some (.deferred (some [])):=(t3.block _ (by omega) (by omega)).trans hk2
  have i3:=hO _ _ _ _ i2 (t3.mono (fun k _ h=> .inr h))
  have ax3:=hAx _ _ _ _ ax (t3.mono (fun k _ h=> .inr h))
  have z3:=Nat.le_trans z2 t3.size
  rw[hW3]
  refine wpIn_mono (hbody T pre x a' W3 i3 ax3 z3 hpre) ?_
  rintro e a4 W4 ⟨rfl,i4,t4⟩
  have hl4:=(t4.block (w.heap.size+1) (by omega) (fun h=>h.2.2.2 rfl)).trans hl3
  have hk4:=(t4.block w.heap.size (by omega) (fun h=>h.2.2.1 rfl)).trans hk3
  have z4:=Nat.le_trans z3 t4.size
  have hr:=run_endRound (P:=P) none hl4
  rw[hrec]at hr
  have t5:Touch (fun k=>k=w.heap.size+1) W4 (W4.putObj (w.heap.size+1) (.loop (rec .ready none))):=cZ _ _
  refine⟨_,_,hr,rfl,⟨?_,t1,t2,?_,?_,?_⟩,?_⟩
  ·have:=hO _ _ _ _ i4 (t5.mono (fun k _ h=> .inr h))
   rw[hrec]at this
   exact this
  ·simp;omega
  ·rw[hrec];exact World.putObj_heap_same (by omega)
  ·exact(World.putObj_heap_other (by omega)).trans hk4
  have t6:=((Touch.of_ext (S:=fun k=> ¬T k∧ ¬R k) e2).trans (t3.mono (fun k _ h=>by subst h;exact⟨t2,fun hr=>by have:=hR _ hr;omega⟩))).trans (t4.mono (S':=fun k=> ¬T k∧ ¬R k) (fun k _ h=>⟨h.1,h.2.1⟩))
  have t7:=t6.trans (t5.mono (S':=fun k=> ¬T k∧ ¬R k) (fun k _ h=>by subst h;exact⟨t2,fun hr=>by have:=hR _ hr;omega⟩))
  rw[hrec]at t7
  exact t7
 rintro e W2 ⟨⟨v,rfl⟩,T,i,t1,t2,z,hl,hk⟩
 refine⟨none,_,by have:=run_endLoop (P:=P) hl (by rw[hrec];simp);rw[hrec]at this;exact this,?_⟩
 exact hdone T _ (hO _ _ _ _ i ((cZ (w.heap.size+1) _).mono (fun k _ h=> .inr h))) ((World.putObj_heap_other (by omega)).trans hk)
theorem aB1 {α:Type} {P:Program} {n:Nat} {g:Operand} {assign body:Code} {Q:Exit→Act→World→Prop} {a:Act} {w:World} {gf:Nat} {lb:Array Value} {v:α→Value} {cs:α→Array Value} {t:TypeId} {psl bs:Nat} {xs:List α} {R:Nat→Prop}
  (hg:a.eval g= .func (.func gf) #[] lb) (eg: ∀args w,(callFunc gf args).run P w= .ok (.enter gf args) w) (hseq:qR P gf lb (fun x=> #[v x]) xs R w)
  (I:(Nat→Prop)→List α→World→Prop) (hR: ∀k,R k→k<w.heap.size)
  (hO: ∀T pre W1 W2,I T pre W1→Touch (fun k=>k=w.heap.size∨k=w.heap.size+1) W1 W2→I T pre W2)
  (hA: ∀T pre W1 o,I T pre W1→I (fun k=>T k∨k=W1.heap.size) pre (W1.alloc o))
  (hE: ∀T pre W1 W2,I T pre W1→Ext W1 W2→I T pre W2)
  (hS: ∀T pre W1 p u,I T pre W1→T p.block→I T pre (W1.setCell p u))
  (h0:I (fun _=>False) [] w)
  (hassign: ∀x W1 (K:Act→World→Prop),(∀Bx W2,Ext W1 W2→W2.heap[Bx]? =some (.cells (cs x) t (0,0))→W1.heap.size≤Bx→K {tmps:=(a.tmps.setIfInBounds psl (v x)).setIfInBounds bs (.pointer (some ⟨Bx,0,none⟩)),defers:=[]} W2)→
   assign.wpIn (Fence.wide.inRound (w.heap.size+1)) 3 P (Exit.then K (fun _ _ _=>False)) {tmps:=a.tmps.setIfInBounds psl (v x),defers:=[]} W1)
  (hbody: ∀T pre x Bx W1,I T pre W1→W1.heap[Bx]? =some (.cells (cs x) t (0,0))→w.heap.size+2≤Bx→w.heap.size+2≤W1.heap.size→pre++[x]<+:xs→body.wpIn (Fence.wide.inRound (w.heap.size+1)) 3 P
   (fun e _ W2=>e= .normal∧I T (pre++[x]) W2∧Touch (fun k=> ¬T k∧ ¬R k∧k≠w.heap.size∧k≠w.heap.size+1) W1 W2) {tmps:=(a.tmps.setIfInBounds psl (v x)).setIfInBounds bs (.pointer (some ⟨Bx,0,none⟩)),defers:=[]} W1)
  (hdone: ∀T W1,I T xs W1→W1.heap[w.heap.size]? =some (.deferred (some []))→Q .normal {a with defers:={target:= .collected w.heap.size,args:= #[]}::a.defers} W1):
  (Code.rangeFunc g #[psl] assign body).wpIn Fence.wide n P Q a w:=by
 refine uI hg eg hseq (fun _=>rfl) I (fun x a' W=> ∃Bx,w.heap.size+2≤Bx∧W.heap[Bx]? =some (.cells (cs x) t (0,0))∧a'={tmps:=(a.tmps.setIfInBounds psl (v x)).setIfInBounds bs (.pointer (some ⟨Bx,0,none⟩)),defers:=[]})
  hR hO hA hE hS ?_ h0 ?_ ?_ hdone
 ·rintro x a' W1 W2 ⟨Bx,h1,h2,h3⟩ tt
  exact⟨Bx,h1,(tt.block Bx (Array.getElem?_eq_some_iff.1 h2).1 (fun e=>by omega)).trans h2,h3⟩
 ·intro T pre x W1 K i z hK
  have e: ∀tm:Array Value,Array.foldl (fun(t:Array Value) (x:Nat×Value)=>t.setIfInBounds x.1 x.2) tm (#[psl].zip #[v x])=tm.setIfInBounds psl (v x):=fun tm=>by simp
  rw[e]
  exact hassign x W1 K fun Bx W2 e hb hx=>hK _ _ e ⟨Bx,by omega,hb,rfl⟩
 rintro T pre x a' W1 i ⟨Bx,h1,h2,rfl⟩ z hp
 exact hbody T pre x Bx W1 i h2 h1 z hp
theorem nJ {α:Type} (E:Enc α) {Fc:Fence} {n:Nat} {P:Program} {t e:TypeId} {z:Value} {bytes:Nat} (T:cH P t e z E.size bytes) {ops:Array Oper} {rest:List Oper} {o:Oper} {a:Act} {Q:Exit→Act→World→Prop}
  (hgd:o.guard=none) (s x:Operand) (ho:o.op= .call {callee:= .builtin .append,args:= #[s,x],argTypes:= #[t,t]})
  (base:Nat) (w:World) (v:Value) (l:List α) (hs:a.eval s=v) (hown:Own E w base e v l)
  (y:α) (cs:Array Value) (e':TypeId) (hcs:cs=(E.cells y).toArray) (b:Nat) (hb:b=w.heap.size) (hx:a.eval x= .slice (some ⟨b,0,none⟩) 1 1)
  (hlen:(l.length+1)*bytes≤140737488355328) (hl:l.length≤1000000000) (hbase:base≤w.heap.size)
  (h: ∀g c w',Own E w' base e (.slice (some ⟨g,0,none⟩) (l.length+1) c) (l++[y])→Touch (fun k=>v.ownBlock=some k) w w'→(v.ownBlock=some g∨w.heap.size≤g)→wpListIn Fc n P ops Q rest (a.put o.dst (.slice (some ⟨g,0,none⟩) (l.length+1) c)) w'):wpListIn Fc n P ops Q (o::rest) a (w.alloc (.cells cs e')):=by
 subst hb
 obtain⟨i0,hi,hz0,hz1,hz2⟩:=info_parts T.info
 have hnews:=iV w cs e'
 subst hcs
 refine wpListIn_plain hgd fun K hK'=> ?_
 obtain⟨v',w',hrun,r1,r2,r3,r4⟩:=run_append_own_at (P:=P) (w.alloc (.cells (E.cells y).toArray e')) base t o.type e i0 z E.size bytes T.under hi hz0 hz1 hz2 T.zs T.pos v l.length (l.flatMap E.cells) (World.ownsRow.alloc hown _) ⟨w.heap.size,0,none⟩ 1 1 (E.cells y) (by simp[E.len]) (by simpa using hnews) (E.one y) (by unfold maxLen;omega) hlen (by simp;omega)
 have hown'':Own E w' base e v' (l++[y]):=by unfold Own;simpa using r1
 obtain⟨g,c,rfl⟩:=hown''.cons
 have key:=h g c w' hown'' (((Touch.refl _ w).alloc _).grown r2 (fun k hk=> .inl hk)) (by
  simp only[Value.ownBlock,World.size_alloc,Option.some.injEq]at r4
  rcases r4 with r4|r4
  ·exact .inl r4.symm
  exact .inr (by omega))
 unfold Oper.wpIn
 refine⟨?_,?_⟩
 ·simp[Oper.about,ho,resolve,Target.leads,Sem.run_pure]
 rw[Oper.semAt_plain Fc _ _ (by rw[ho];intro c hc';cases hc')]
 simp[execOp,ho,resolve,invoke,builtin,hs,hx,hrun,Result.andThen]
 exact hK' _ _ key
theorem xK {α:Type} {P:Program} {n:Nat} {g:Operand} {assign body:Code} {Q:Exit→Act→World→Prop} {a:Act} {w:World} {gf:Nat} {lb:Array Value} {encs:α→Array Value} {u v:α→Value} {cs:α→Array Value} {t:TypeId} {p1 p2 bs:Nat} {xs:List α} {R:Nat→Prop}
  (hg:a.eval g= .func (.func gf) #[] lb) (eg: ∀args w,(callFunc gf args).run P w= .ok (.enter gf args) w) (hseq:qR P gf lb encs xs R w) (henc: ∀x,encs x= #[u x,v x])
  (I:(Nat→Prop)→List α→World→Prop) (hR: ∀k,R k→k<w.heap.size)
  (hO: ∀T pre W1 W2,I T pre W1→Touch (fun k=>k=w.heap.size∨k=w.heap.size+1) W1 W2→I T pre W2)
  (hA: ∀T pre W1 o,I T pre W1→I (fun k=>T k∨k=W1.heap.size) pre (W1.alloc o))
  (hE: ∀T pre W1 W2,I T pre W1→Ext W1 W2→I T pre W2)
  (hS: ∀T pre W1 p u,I T pre W1→T p.block→I T pre (W1.setCell p u))
  (h0:I (fun _=>False) [] w)
  (hassign: ∀x W1 (K:Act→World→Prop),(∀Bx W2,Ext W1 W2→W2.heap[Bx]? =some (.cells (cs x) t (0,0))→W1.heap.size≤Bx→K {tmps:=((a.tmps.setIfInBounds p1 (u x)).setIfInBounds p2 (v x)).setIfInBounds bs (.pointer (some ⟨Bx,0,none⟩)),defers:=[]} W2)→
   assign.wpIn (Fence.wide.inRound (w.heap.size+1)) 3 P (Exit.then K (fun _ _ _=>False)) {tmps:=(a.tmps.setIfInBounds p1 (u x)).setIfInBounds p2 (v x),defers:=[]} W1)
  (hbody: ∀T pre x Bx W1,I T pre W1→W1.heap[Bx]? =some (.cells (cs x) t (0,0))→w.heap.size+2≤Bx→w.heap.size+2≤W1.heap.size→pre++[x]<+:xs→body.wpIn (Fence.wide.inRound (w.heap.size+1)) 3 P
   (fun e _ W2=>e= .normal∧I T (pre++[x]) W2∧Touch (fun k=> ¬T k∧ ¬R k∧k≠w.heap.size∧k≠w.heap.size+1) W1 W2) {tmps:=((a.tmps.setIfInBounds p1 (u x)).setIfInBounds p2 (v x)).setIfInBounds bs (.pointer (some ⟨Bx,0,none⟩)),defers:=[]} W1)
  (hdone: ∀T W1,I T xs W1→W1.heap[w.heap.size]? =some (.deferred (some []))→Q .normal {a with defers:={target:= .collected w.heap.size,args:= #[]}::a.defers} W1):
  (Code.rangeFunc g #[p1,p2] assign body).wpIn Fence.wide n P Q a w:=by
 refine uI hg eg hseq (fun x=>by rw[henc];rfl) I (fun x a' W=> ∃Bx,w.heap.size+2≤Bx∧W.heap[Bx]? =some (.cells (cs x) t (0,0))∧a'={tmps:=((a.tmps.setIfInBounds p1 (u x)).setIfInBounds p2 (v x)).setIfInBounds bs (.pointer (some ⟨Bx,0,none⟩)),defers:=[]})
  hR hO hA hE hS ?_ h0 ?_ ?_ hdone
 ·rintro x a' W1 W2 ⟨Bx,h1,h2,h3⟩ tt
  exact⟨Bx,h1,(tt.block Bx (Array.getElem?_eq_some_iff.1 h2).1 (fun e=>by omega)).trans h2,h3⟩
 ·intro T pre x W1 K i z hK
  have e: ∀tm:Array Value,Array.foldl (fun(t:Array Value) (x:Nat×Value)=>t.setIfInBounds x.1 x.2) tm (#[p1,p2].zip (encs x))=(tm.setIfInBounds p1 (u x)).setIfInBounds p2 (v x):=fun tm=>by rw[henc];simp
  rw[e]
  exact hassign x W1 K fun Bx W2 e hb hx=>hK _ _ e ⟨Bx,by omega,hb,rfl⟩
 rintro T pre x a' W1 i ⟨Bx,h1,h2,rfl⟩ z hp
 exact hbody T pre x Bx W1 i h2 h1 z hp
theorem nT (b:Nat) (t:TypeId): ∀(vs:List Value) (o:Nat) (w:World) (cur:Array Value),w.heap[b]? =some (.cells cur t (0,0))→o+vs.length≤cur.size→
  ∃cur':Array Value,(w.setCells b o vs).heap[b]? =some (.cells cur' t (0,0))∧cur'.size=cur.size∧cur'.toList=cur.toList.take o++vs++cur.toList.drop (o+vs.length)
 |[],o,w,cur,h,_=>⟨cur,h,rfl,by simp⟩
 |v::vs,o,w,cur,h,hl=>by
  simp only[List.length_cons]at hl
  have h1:(w.setCell ⟨b,o,none⟩ v).heap[b]? =some (.cells (cur.setIfInBounds o v) t (0,0)):=Blk.set_ (w:=w) h o v
  obtain⟨cur',h2,h3,h4⟩:=nT b t vs (o+1) _ _ h1 (by simp;omega)
  refine⟨cur',h2,by simpa using h3,?_⟩
  rw[h4]
  have hlt:o<cur.toList.length:=by simp;omega
  simp only[Array.toList_setIfInBounds,List.length_cons]
  rw[List.take_add_one,List.getElem?_set_self (by simpa using hlt),List.take_set_of_le (Nat.le_refl _),List.drop_set_of_lt (by omega),show o+1+vs.length=o+(vs.length+1) by omega]
  simp
theorem pN (b:Nat): ∀(vs:List Value) (o:Nat) {a w:World} {S:Nat→Prop},Touch S a w→S b→Touch S a (w.setCells b o vs)
 |[],_,_,_,_,h,_=>h
 |v::vs,o,_,_,_,h,hb=>pN b vs (o+1) (h.setCell (.inl hb) v) hb
end Go.Proofs.YtaellcgglldjaaaGreat

