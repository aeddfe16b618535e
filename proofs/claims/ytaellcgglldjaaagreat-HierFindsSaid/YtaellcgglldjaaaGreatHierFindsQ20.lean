/- Part of a proof: CmpW. -/
import Derived.Test.YtaellcgglldjaaaGreatHierFindsQ07
import Derived.Sort.Grow
import Derived.Test.YtaellcgglldjaaaGreatHierFindsQ03
import Derived.Laws.IdiomCopy
import Derived.Test.YtaellcgglldjaaaGreatHierFindsQ19
import Derived.Shelf.SlSortCmp.NoneTotal
import Derived.Test.YtaellcgglldjaaaGreatHierFindsQ15
import Derived.Deep.CutBlock
set_option linter.all false
set_option linter.unusedVariables false
set_option linter.unusedSimpArgs false
namespace Go.Proofs.YtaellcgglldjaaaGreat
open Go.RowKit
def Grown (w w':World):Prop:= ∃q os,w'=Go.Sort.grow (w.drewN q) os
theorem Grown.refl (w:World):Grown w w:=⟨0, #[],by rw[Go.Sort.grow_empty];rfl⟩
theorem Grown.drew {w w':World} (h:Grown w w'):Grown w w'.drew:=by
 obtain⟨q,os,rfl⟩:=h
 exact⟨q+1,os,rfl⟩
theorem Grown.alloc {w w':World} (h:Grown w w') (o:Obj):Grown w (w'.alloc o):=by
 obtain⟨q,os,rfl⟩:=h
 exact⟨q,os++ #[o],by rw[Go.Sort.alloc_eq_grow,Go.Sort.grow_grow]⟩
theorem mX (x y:Int) (w:World):Calls Tryz.prog 136 #[.int .i64 x, .int .i64 y] w fun e w'=>e= .returned (.int .i64 (Go.Lib.compareInt x y))∧w=w':=by
 go_enter Tryz.func136,Tryz.ntmps136
 go_wp2
 all_goals (go_ret;refine⟨?_,rfl⟩;unfold Go.Lib.compareInt;(repeat' split)<;>first|rfl|(exfalso;omega))
def orI (x y:Int):Int:=if x=0 then y else x
theorem aD7 (x y:Int) (g:Nat) (w:World) (h:IntsAt w g 0 [x,y]):Calls Tryz.prog 135 #[.slice (some ⟨g,0,none⟩) 2 2] w fun e w'=>e= .returned (.int .i64 (orI x y))∧w=w':=by
 have c0:w.cell? ⟨g,0,none⟩=some (.int .i64 x):=by simpa using h 0 (by simp)
 have c1:w.cell? ⟨g,1,none⟩=some (.int .i64 y):=by simpa using h 1 (by simp)
 clear h
 unfold orI
 by_cases hx:x=0
 ·subst hx
  rw[if_pos rfl]
  cases hy:(y==0)
  ·go_enter Tryz.func135,Tryz.ntmps135
   go_wp2
   go_loop [8] (fun i=>i= .int .i64 0∨i= .int .i64 1) (fun i=>2-(intOf i).toNat)
   case atStart=>exact .inl rfl
   rcases hrel with rfl|rfl
   ·go_wp2
    go_round
    case rel=>exact .inr (by go_num)
    simp[intOf]
   go_wp2
   go_ret
   exact⟨rfl,rfl⟩
  obtain rfl:y=0:=by simpa using hy
  go_enter Tryz.func135,Tryz.ntmps135
  go_wp2
  go_loop [8] (fun i=>i= .int .i64 0∨i= .int .i64 1∨i= .int .i64 2) (fun i=>2-(intOf i).toNat)
  case atStart=>exact .inl rfl
  rcases hrel with rfl|rfl|rfl
  ·go_wp2
   go_round
   case rel=>exact .inr (.inl (by go_num))
   simp[intOf]
  ·go_wp2
   go_round
   case rel=>exact .inr (.inr (by go_num))
   simp[intOf]
  go_wp2
  go_ret
  exact⟨rfl,rfl⟩
 rw[if_neg hx]
 have hx':(x==0)=false:=by simpa using hx
 clear hx
 go_enter Tryz.func135,Tryz.ntmps135
 go_wp2
 go_loop [8] (fun i=>i= .int .i64 0) (fun i=>0)
 case atStart=>exact rfl
 obtain rfl:=hrel
 go_wp2
 go_ret
 exact⟨rfl,rfl⟩
theorem aIq (p q:aB) (w:World):Calls Tryz.prog 134 #[.agg #[.int .i64 p.1, .int .i64 p.2], .agg #[.int .i64 q.1, .int .i64 q.2]] w fun e w'=>e= .returned (.int .i64 (hU p q))∧Grown w w':=by
 obtain⟨px,py⟩:=p
 obtain⟨qx,qy⟩:=q
 have HC:=aA (show hU (px,py) (qx,qy)=orI (Go.Lib.compareInt py qy) (Go.Lib.compareInt px qx) from rfl)
 rw[HC.out]
 simp only
 go_enter Tryz.func134,Tryz.ntmps134
 go_wp2_with fail
 have G2:=aA (((Grown.refl w).alloc (.cells #[.int .i64 px, .int .i64 py] 28)).alloc (.cells #[.int .i64 qx, .int .i64 qy] 28))
 have S2:Hid (CellsAt [(⟨w.heap.size,0,none⟩, .int .i64 px),(⟨w.heap.size,1,none⟩, .int .i64 py),(⟨w.heap.size+1,0,none⟩, .int .i64 qx),(⟨w.heap.size+1,1,none⟩, .int .i64 qy)] ((w.alloc (.cells #[.int .i64 px, .int .i64 py] 28)).alloc (.cells #[.int .i64 qx, .int .i64 qy] 28))):=aA ⟨by simp,by simp,by simp,by simp,trivial⟩
 obtain⟨w2,hw2⟩: ∃w2,(w.alloc (.cells #[.int .i64 px, .int .i64 py] 28)).alloc (.cells #[.int .i64 qx, .int .i64 qy] 28)=w2:=⟨_,rfl⟩
 rw[hw2]at G2 S2⊢
 obtain⟨g,hg⟩: ∃g,w.heap.size=g:=⟨_,rfl⟩
 rw[hg]at S2⊢
 clear hw2 hg HC
 refine bM (S:=(fun X=>CellsAt [(⟨g,0,none⟩, .int .i64 px),(⟨g,1,none⟩, .int .i64 py),(⟨g+1,0,none⟩, .int .i64 qx),(⟨g+1,1,none⟩, .int .i64 qy)] X∧Grown w X)) [(0,true),(1,true),(2,true),(3,true),(5,true),(6,true),(7,true),(8,true),(4,false),(9,false),(10,false),(11,false),(12,true)] (by kernel_rfl) (by kernel_rfl) (by kernel_rfl) (by decide) (fun _ _ d _ _ h=>by cases d<;>exact h) ⟨CellsAt.ext ((Ext.refl _).drew) S2.out,G2.out.drew⟩ (fun hK0=> ?_)
 iterate 8 (refine SeqH.fr2 ?_;try simp only[zz])
 (refine aP ?_;intro K hK;go_simp;refine(mX _ _ _).mono ?_;rintro e9 w9 ⟨rfl,rfl⟩;go_wp2_with fail;refine hK.out _ _ (⟨CellsAt.ext z_x S2.out,G2.out.drew⟩) (fun hK0=> ?_);clear hK K;try simp only[zz])
 (refine aP ?_;intro K hK;go_simp;refine(mX _ _ _).mono ?_;rintro e9 w9 ⟨rfl,rfl⟩;go_wp2_with fail;refine hK.out _ _ (⟨CellsAt.ext z_x S2.out,G2.out.drew⟩) (fun hK0=> ?_);clear hK K;try simp only[zz])
 (refine aP ?_;intro K hK;go_simp;refine hK.out _ _ (⟨CellsAt.ext z_x S2.out,(G2.out.drew).alloc _⟩) (fun hK0=> ?_);clear hK K;try simp only[zz])
 (refine aP ?_;intro K hK;go_simp;refine(aD7 (Go.Lib.compareInt py qy) (Go.Lib.compareInt px qx) w2.heap.size _ ?_).mono ?_;(·exact fun k hk=>aAv w2 _ _ _ _ rfl k hk);rintro e9 w9 ⟨rfl,rfl⟩;go_wp2_with fail;refine hK.out _ _ (⟨CellsAt.ext z_x S2.out,(G2.out.drew).alloc _⟩) (fun hK0=> ?_);clear hK K;try simp only[zz])
 iterate 1 (refine SeqH.fr2 ?_;try simp only[zz])
 refine SeqH.done ?_
 have G:=aA hK0.2
 clear hK0
 go_wp2
 go_ret
 exact⟨rfl,G.out⟩
theorem T_cellsG:cH Tryz.prog 37 28 (.agg #[.int .i64 0, .int .i64 0]) 2 16:=⟨Tryz.underlying37,by kernel_rfl,rfl,by decide⟩
def mN (xs:List Value) (off:Nat):List Value→List Value
 |[]=>xs
 |u::us=>mN (xs.set off u) (off+1) us
theorem aAh (us:List Value): ∀(pre mid post:List Value),us.length=mid.length→mN (pre++(mid++post)) pre.length us=pre++(us++post):=by
 induction us with
 |nil=>intro pre mid post h;have:mid=[]:=List.eq_nil_of_length_eq_zero h.symm;subst this;rfl
 |cons u us ih=>
  intro pre mid post h
  cases mid with
  |nil=>simp at h
  |cons m mid=>
   simp only[mN]
   have e:(pre++(m::mid++post)).set pre.length u=(pre++[u])++(mid++post):=by simp
   rw[e]
   have:=ih (pre++[u]) mid post (by simpa using h)
   simp only[List.length_append,List.length_cons,List.length_nil,Nat.zero_add]at this
   rw[this];simp
theorem aG5 {α:Type} (E:Enc α) (l:List α) (i:Nat) (a:α) (hi:i<l.length):(l.set i a).flatMap E.cells=mN (l.flatMap E.cells) (i*E.size) (E.cells a):=by
 have e:l=l.take i++l[i]::l.drop (i+1):=by simp
 have e2:l.set i a=l.take i++a::l.drop (i+1):=by rw[List.set_eq_take_append_cons_drop,if_pos hi]
 have hl:((l.take i).flatMap E.cells).length=i*E.size:=by rw[E.flat_len,List.length_take,Nat.min_eq_left (by omega)]
 rw[e2]
 conv=>rhs;rw[e]
 rw[List.flatMap_append,List.flatMap_append,List.flatMap_cons,List.flatMap_cons,←hl]
 exact(aAh (E.cells a) _ _ _ (by rw[E.len,E.len])).symm
def uV (w:World) (g off:Nat):List Value→World
 |[]=>w
 |u::us=>uV (w.setCell ⟨g,off,none⟩ u) g (off+1) us
theorem aAi {base:Nat} {e:TypeId} {size g n cap:Nat} (us:List Value): ∀(w:World) (off:Nat) (xs:List Value),w.ownsRow base e size (.slice (some ⟨g,0,none⟩) n cap) n xs→(uV w g off us).ownsRow base e size (.slice (some ⟨g,0,none⟩) n cap) n (mN xs off us):=by
 induction us with
 |nil=>intro w off xs h;exact h
 |cons u us ih=>intro w off xs h;exact ih _ _ _ (h.stored off u).1
theorem Own.turnG {α:Type} {E:Enc α} {w:World} {base:Nat} {e:TypeId} {g n c:Nat} {l:List α} (h:Own E w base e (.slice (some ⟨g,0,none⟩) n c) l) {i:Nat} (hi:i<l.length) (a:α):Own E (uV w g (i*E.size) (E.cells a)) base e (.slice (some ⟨g,0,none⟩) n c) (l.set i a):=by
 obtain⟨a',c',e'⟩:=h.slice
 have en:n=l.length:=by injection e'
 subst en
 unfold Own at h⊢
 rw[List.length_set,aG5 E l i a hi]
 exact aAi _ _ _ _ h
theorem sO {P:Program} (w:World) (t e ty:TypeId) (z:Value) (ht:P.underlying t=some (.slice e)) (hv: ∀w,(zeroValue e).run P w= .ok z w) (h1: ∀i,i<z.cells.size→(z.cells[i]!).oneCell'=true) (b o n c:Nat) (hn:0<n) (hs:0<z.cells.size)
  (hc: ∀j,j<n*z.cells.size→(w.cell? ⟨b,o+j,none⟩).isSome=true) (hf: ∀j,j<n*z.cells.size→w.frozen? ⟨b,o+j,none⟩=false):
  ∃zs:List Value,zs.length=n*z.cells.size∧(Builtin.clear_ #[t] ty #[.slice (some ⟨b,o,none⟩) n c]).run P w= .ok (.tuple #[]) (w.setCells b o zs):=by
 have hlen:(Builtin.zeroCells z.cells n).toList.length=n*z.cells.size:=by simp[Builtin.zeroCells]
 refine⟨(Builtin.zeroCells z.cells n).toList,hlen,?_⟩
 have hone: ∀v∈(Builtin.zeroCells z.cells n).toList,v.oneCell'=true:=by
  intro v hv'
  unfold Builtin.zeroCells at hv'
  simp only[Array.toList_map,Array.toList_range,List.mem_map,List.mem_range]at hv'
  obtain⟨i,_,rfl⟩:=hv'
  exact h1 _ (Nat.mod_lt _ hs)
 have hst:=run_storeCells_cells (P:=P) b o (Builtin.zeroCells z.cells n).toList 0 w (by rw[hlen];simpa using hc) (by rw[hlen];simpa using hf) hone
 simp only[Nat.add_zero]at hst
 obtain⟨m,rfl⟩: ∃m,n=m+1:=⟨n-1,by omega⟩
 simp[Builtin.clear_,run_underlying ht,hv,hst]
theorem aDu {α:Type} (E:Enc α) (l:List α): ∀i,(l.take i).flatMap E.cells=(l.flatMap E.cells).take (i*E.size):=by
 induction l with
 |nil=>simp
 |cons a l ih=>
  intro i
  cases i with
  |zero=>simp
  |succ i=>
   rw[List.take_succ_cons,List.flatMap_cons,List.flatMap_cons,ih,List.take_append,E.len,Nat.add_mul,Nat.one_mul,Nat.add_sub_cancel]
   rw[List.take_of_length_le (l:=E.cells a) (by rw[E.len];omega)]
theorem Own.cutG {α:Type} {E:Enc α} {w:World} {base:Nat} {e:TypeId} {g n c i:Nat} {l:List α} (h:Own E w base e (.slice (some ⟨g,0,none⟩) n c) l) (hi:i≤n):Own E w base e (.slice (some ⟨g,0,none⟩) i c) (l.take i):=by
 obtain⟨a',c',e'⟩:=h.slice
 have en:n=l.length:=by injection e'
 subst en
 rcases h.2 with⟨h0,_⟩|⟨g',cap,cur,hv,hb,hg,h1,h2,h3,h4⟩
 ·cases h0
 cases hv
 have hl:(l.take i).length=i:=by rw[List.length_take];omega
 refine⟨by rw[E.flat_len], .inr ⟨g,c,cur,by rw[hl],hb,hg,by rw[hl];omega,h2,h3,?_⟩⟩
 rw[hl,aDu,←h4,List.take_take]
 congr 1
 exact(Nat.min_eq_left (Nat.mul_le_mul_right _ hi)).symm
theorem Own.tail_setG {α:Type} {E:Enc α} {w:World} {base:Nat} {e:TypeId} {g i c:Nat} {l:List α} (h:Own E w base e (.slice (some ⟨g,0,none⟩) i c) l) (zs:List Value) (hfit:i*E.size+zs.length≤c*E.size):Own E (w.setCells g (i*E.size) zs) base e (.slice (some ⟨g,0,none⟩) i c) l:=by
 obtain⟨a',c',e'⟩:=h.slice
 have en:i=l.length:=by injection e'
 subst en
 rcases h.2 with⟨h0,_⟩|⟨g',cap,cur,hv,hb,hg,h1,h2,h3,h4⟩
 ·cases h0
 cases hv
 obtain⟨cur1,k1,k2,k3⟩:=nT g e zs (l.length*E.size) w cur hg (by omega)
 refine⟨by rw[E.flat_len], .inr ⟨g,c,cur1,rfl,hb,k1,h1,h2,by omega,?_⟩⟩
 rw[k3,←h4,List.append_assoc,List.take_append,List.length_take]
 rw[List.take_take]
 have:min (l.length*E.size) cur.toList.length=l.length*E.size:=Nat.min_eq_left (by have:=Array.length_toList (xs:=cur);omega)
 rw[this,Nat.min_self,Nat.sub_self,List.take_zero,List.append_nil]
theorem iE {w:World} {base g n c:Nat} {l:List aB} (h:Own cellE w base 28 (.slice (some ⟨g,0,none⟩) n c) l) {k:Nat} {p:aB} (hk:l[k]? =some p):
  w.cell? ⟨g,k*2,none⟩=some (.int .i64 p.1)∧w.cell? ⟨g,k*2+1,none⟩=some (.int .i64 p.2)∧g<w.heap.size:=by
 obtain⟨a,c',e⟩:=h.slice
 have en:n=l.length:=by injection e
 subst en
 have hkl:=(zJ hk).1
 have h':w.ownsRow base 28 2 (.slice (some ⟨g,0,none⟩) l.length c) l.length (l.flatMap cellE.cells):=h
 refine⟨?_,?_,(aF h rfl).2⟩
 ·have:=cM cellE l k p hk 0 _ rfl
  rw[h'.cellAt (k*2) (by omega)]
  exact this
 have:=cM cellE l k p hk 1 _ rfl
 rw[h'.cellAt (k*2+1) (by omega)]
 exact this
def fQ (c:aB):List Value:=[.int .i64 c.1, .int .i64 c.2]
theorem aFv (blk off size:Nat) (w:World):Go.Proofs.CmpLays Tryz.prog 134 #[] fQ 2 hU blk off size w:=
 fun _ _ _ _ x y=>aIq x y _
theorem aKj (l:List aB):(Go.Sort.flatK fQ 2 l.toArray).toList=l.flatMap cellE.cells:=by
 refine List.ext_getElem? (fun t=> ?_)
 by_cases ht:t<l.length*2
 ·have h1:(Go.Sort.flatK fQ 2 l.toArray).toList[t]? =some (Go.Sort.flatK fQ 2 l.toArray)[t]! :=by
   have:t<(Go.Sort.flatK fQ 2 l.toArray).size:=by rw[Go.Sort.size_flatK];simpa using ht
   rw[Array.getElem?_toList,Array.getElem?_eq_getElem this,getElem!_pos (Go.Sort.flatK fQ 2 l.toArray) t this]
  rw[h1,Go.Sort.get_flatK _ _ _ _ (by simpa using ht)]
  have hk:t/2<l.length:=by omega
  have hj:t/2*2+t% 2=t:=by omega
  have hy:l[t/2]? =some l[t/2]:=zG hk
  have e1:l.toArray[t/2]! =l[t/2]:=by rw[getElem!_pos l.toArray (t/2) (by simpa using hk)];simp
  rw[e1]
  have h2:t% 2=0∨t% 2=1:=by omega
  rcases h2 with h2|h2
  ·have:=cM cellE l _ _ hy 0 (.int .i64 l[t/2].1) rfl
   rw[show t/2*cellE.size+0=t by show t/2*2+0=t;omega]at this
   rw[this,h2];rfl
  have:=cM cellE l _ _ hy 1 (.int .i64 l[t/2].2) rfl
  rw[show t/2*cellE.size+1=t by show t/2*2+1=t;omega]at this
  rw[this,h2];rfl
 rw[List.getElem?_eq_none (by rw[Array.length_toList,Go.Sort.size_flatK];simp;omega),List.getElem?_eq_none (by rw[cellE.flat_len];show l.length*2≤t;omega)]
theorem zW {w:World} {g c n base:Nat} {e:TypeId} {l l':List aB} (h:Own cellE w base e (.slice (some ⟨g,0,none⟩) n c) l) (ha:l'.length=n):Own cellE (Go.Sort.putRowK fQ 2 w g 0 l'.toArray) base e (.slice (some ⟨g,0,none⟩) n c) l':=by
 obtain⟨h1,h2⟩:=h
 rcases h2 with⟨e,_⟩|⟨g',cap,cur,e,hb,hg,hn,hc,hs,ht⟩
 ·cases e
 have hl:n=l.length:=by injection e
 have hcc:c=cap:=by injection e
 have hgg:g=g':=by injection e with e1;injection e1 with e1;injection e1
 subst hcc hgg
 have hF:=aKj l'
 have hsz:(Go.Sort.flatK fQ 2 l'.toArray).size=l'.length*2:=by rw[Go.Sort.size_flatK];simp
 unfold Go.Sort.putRowK
 generalize Go.Sort.flatK fQ 2 l'.toArray=F at hF hsz⊢
 refine⟨by rw[cellE.flat_len], .inr ⟨g,c,Go.Sort.putCells id 0 F cur,by rw[ha],hb,?_,by rw[ha,hl];exact hn,hc,by simp[Go.Sort.putCells,hs],?_⟩⟩
 ·unfold Go.Sort.putRow Go.Sort.mapBlock
  rw[Array.getElem?_modify,if_pos rfl,hg]
  rfl
 have hcur:l'.length*2≤cur.size:=by rw[hs,ha,hl];exact Nat.mul_le_mul_right 2 hn
 rw[←hF]
 refine List.ext_getElem (by simp[Go.Sort.putCells,cellE,hsz];omega) (fun i h1 h2=> ?_)
 have hi:i<F.size:=by simpa using h2
 simp[Go.Sort.putCells,hi]
theorem tQ {w:World} {g c base:Nat} {e:TypeId} {l:List aB} (h:Own cellE w base e (.slice (some ⟨g,0,none⟩) l.length c) l):Go.Sort.HoldsK fQ 2 w g 0 l.toArray:=by
 intro j hj
 have hF:=aKj l
 have hsz:(Go.Sort.flatK fQ 2 l.toArray).size=l.length*2:=by rw[Go.Sort.size_flatK];simp
 generalize Go.Sort.flatK fQ 2 l.toArray=F at hF hsz hj⊢
 have hjl:j<l.length*2:=by omega
 have h':w.ownsRow base e 2 (.slice (some ⟨g,0,none⟩) l.length c) l.length (l.flatMap cellE.cells):=h
 refine⟨?_,h'.frozenAt _⟩
 have:=h'.cellAt j (by omega)
 rw[Nat.zero_add,this,←hF]
 simp[hj]
theorem aHx {w:World} {v:Value} {base:Nat} {l:List aB} (h:Own cellE w base 28 v l) (hl:l.length≤1000000):
  Calls Tryz.prog 133 #[v, .func (.func 134) #[] #[]] w fun e w'=>e= .returned (.tuple #[])∧Own cellE w' base 28 v (gS l)∧Touch (fun k=>v.ownBlock=some k) w w':=by
 obtain⟨a,c,rfl⟩:=h.slice
 rcases h.2 with⟨hv,h0⟩|⟨g,cap,cur,hv,hb,hg,_⟩
 ·obtain rfl:l=[]:=List.eq_nil_of_length_eq_zero h0
  exact(Go.Proofs.AnyF.slices_SortFunc_none xR a c _ w).mono fun e w' ⟨he,hw⟩=>⟨he,by rw[hw,show gS []=[] by simp[gS]];exact h,by rw[hw];exact Touch.refl _ _⟩
 cases hv
 have eg: ∀args w,(callFunc 134 args).run Tryz.prog w= .ok (.enter 134 args) w:=enters_of Tryz.func134 (by kernel_rfl) rfl
 refine(Go.Proofs.AnyQ.slices_SortFunc_total xR 2 Tryz.isAgg28 Tryz.sizeOf28 fQ (fun _=>rfl) (fun x v hv=>by simp[fQ]at hv;rcases hv with rfl|rfl<;>rfl) hU yI 134 #[] g 0 c l.toArray w eg (aFv _ _ _ _) (tQ h) (lt_of_block hg) (by simp;omega) tB).mono ?_
 rintro e w' ⟨rfl,n,os,rfl⟩
 have o1:Own cellE (Go.Sort.ahead w n) base 28 (.slice (some ⟨g,0,none⟩) l.length c) l:=h
 have o2:=zW o1 (l':=gS l) (gT l).length_eq
 have t1:Touch (fun k=>k=g) w (Go.Sort.putRowK fQ 2 (Go.Sort.ahead w n) g 0 (gS l).toArray):=(mP _ w n).trans (lP _ _ _ _ _)
 refine⟨rfl,o2.touch (fY (fun _=>False) _ os) (fun _ _ x=>x),(t1.trans (fY _ _ os)).mono (fun k _ hk=>by rw[hk];rfl)⟩
set_option maxRecDepth 100000 in
set_option maxHeartbeats 1000000 in
theorem yJ {w:World} {sb:Nat} {m cap:Nat} {L:List aB} {base:Nat} (hL:L.length=m) (hm:m≤100000) (h2:2≤m) (hs:L.Pairwise leC) (hv:Own cellE w base 28 (.slice (some ⟨sb,0,none⟩) m cap) L):
  Calls Tryz.prog 137 #[.slice (some ⟨sb,0,none⟩) m cap] w fun e w'=> ∃v L',e= .returned v∧Own cellE w' base 28 v L'∧L'.Pairwise ltC∧(∀c,c∈L'↔c∈L)∧Touch (fun k=>k=sb) w w':=by
 have HV:=aA hv
 have HL:=aA hL
 have HS:=aA hs
 have zb:=(aF hv rfl).2
 have hcap:m≤cap∧cap≤9223372036854775807:=by
  rcases hv.2 with⟨h,_⟩|⟨g,c,cur,h,_,_,h1,h2,_⟩
  ·cases h
  cases h
  rw[hL]at h1
  exact⟨h1,h2⟩
 clear hv hL hs
 go_enter Tryz.func137,Tryz.ntmps137
 go_wp2
 go_loopw [3] (fun sk wr=> ∃k:Nat,sk= .int .i64 (k:Int)∧1≤k∧k≤m∧(L.take k).Pairwise ltC∧Ext w wr) (fun sk _=>m-(intOf sk).toNat)
 case atStart=>exact⟨1,rfl,Nat.le_refl _,by omega,by rcases L with _|⟨a,r⟩<;>simp,Ext.refl _⟩
 obtain⟨k,rfl,hk1,hkm,hst,hx⟩:=hrel
 have HT:=aA hst
 have HX:=aA hx
 have zr:sb<wr.heap.size:=Nat.lt_of_lt_of_le zb hx.size
 clear hst hx
 by_cases hlt:k<m
 ·obtain⟨q,hq⟩: ∃q,L[k]? =some q:=⟨_,zG (by rw[HL.out];exact hlt)⟩
  obtain⟨p,hp⟩: ∃p,L[k-1]? =some p:=⟨_,zG (by rw[HL.out];omega)⟩
  have HV2:=aA (HV.out.ext HX.out)
  obtain⟨d0,d1,_⟩:=iE HV2.out hq
  obtain⟨e0,e1,_⟩:=iE HV2.out hp
  have hk0:(1:Int)≤(k:Int):=by omega
  have hki:(k:Int)<(m:Int):=by omega
  have hsub:((k:Int)-1).toNat=k-1:=by omega
  have HQ:=aA hq
  have HP:=aA hp
  obtain⟨qx,qy⟩:=q
  obtain⟨px,py⟩:=p
  simp only at d0 d1 e0 e1
  have hEq:=fun(w:World)=>bC (qx,qy) (px,py) w
  simp only at hEq
  clear hq hp
  cases hb:cK (qx,qy) (px,py)
  ·rw[hb]at hEq
   have hne:(qx,qy)≠(px,py):=by rw[bB]at hb;simpa using hb
   have HN:=aA (aC8 HS.out HT.out hk1 HQ.out HP.out hne)
   clear hne hb
   go_wp2_with fail
   go_quiet (fail)
   go_wp2
   go_roundw
   case rel=>exact⟨k+1,by go_num,by omega,by omega,HN.out,HX.out.drewN _⟩
   simp[intOf];omega
  rw[hb]at hEq
  have heq:(qx,qy)=(px,py):=by rw[bB]at hb;simpa using hb
  have HC:=aA (CompAt.start HT.out hk1 HQ.out (by rw[heq];exact HP.out))
  have hcap1:(k:Int)≤(cap:Int):=by omega
  have hcap2: ¬cap=k:=by omega
  have hkm':k≤m:=by omega
  clear heq hb
  go_wp2_with fail
  go_quiet (fail)
  go_wp2
  go_loopw [3,5] (fun si sj wy=> ∃(i j:Nat) (X:List aB),si= .int .i64 (i:Int)∧sj= .int .i64 (j:Int)∧1≤j∧k+j≤m∧CompAt L X i (k+j)∧Own cellE wy base 28 (.slice (some ⟨sb,0,none⟩) m cap) X∧Touch (fun k=>k=sb) w wy) (fun _ sj _=>m-(intOf sj).toNat)
  case atStart=>exact⟨k,1,L,rfl,rfl,Nat.le_refl _,by omega,HC.out,(HV2.out.ext ((Ext.refl _).drewN _)),Touch.of_ext (HX.out.drewN _)⟩
  obtain⟨i,j,X,rfl,rfl,hj1,hjm,hC,ho,ht⟩:=hrel
  have HCC:=aA hC
  have HO:=aA ho
  have HTT:=aA ht
  have hXm:X.length=m:=by rw[hC.len,HL.out]
  have hij:i<k+j:=hC.lt
  have zr2:sb<wr.heap.size:=Nat.lt_of_lt_of_le zb ht.size
  clear hC ho ht d0 d1 e0 e1 hEq
  by_cases hlt2:j<m-k
  ·obtain⟨q,hq⟩: ∃q,L[k+j]? =some q:=⟨_,zG (by rw[HL.out];omega)⟩
   obtain⟨p,hp⟩: ∃p,L[k+j-1]? =some p:=⟨_,zG (by rw[HL.out];omega)⟩
   have hXq:X[k+j]? =some q:=by rw[HCC.out.back _ (by omega)];exact hq
   have hXp:X[k+j-1]? =some p:=by rw[HCC.out.back _ (Nat.le_refl _)];exact hp
   obtain⟨d0,d1,_⟩:=iE HO.out hXq
   obtain⟨e0,e1,_⟩:=iE HO.out hXp
   rw[show(k+j)*2=k*2+j*2 by omega]at d0 d1
   rw[show(k+j-1)*2=k*2+(j-1)*2 by omega]at e0 e1
   have hj0:(1:Int)≤(j:Int):=by omega
   have hji:(j:Int)<((m-k:Nat):Int):=by omega
   have hjs:((j:Int)-1).toNat=j-1:=by omega
   have hii:(i:Int)<(m:Int):=by omega
   have HQ2:=aA hq
   have HP2:=aA hp
   obtain⟨qa,qb⟩:=q
   obtain⟨pa,pb⟩:=p
   simp only at d0 d1 e0 e1
   have hEq:=fun(w:World)=>bC (qa,qb) (pa,pb) w
   simp only at hEq
   clear hq hp hXq hXp
   cases hb:cK (qa,qb) (pa,pb)
   ·rw[hb]at hEq
    have hne:(qa,qb)≠(pa,pb):=by rw[bB]at hb;simpa using hb
    have HN:=aA (HCC.out.more HS.out (by omega) HQ2.out HP2.out hne)
    clear hne hb
    go_wp2_with fail
    go_quiet (fail)
    obtain⟨w2,hw2⟩: ∃w2,w2=wr.drewN nq:=⟨_,rfl⟩
    rw[←hw2]
    have hx2:Ext wr w2:=by rw[hw2];exact(Ext.refl wr).drewN _
    have HX2:=aA hx2
    have b0:=(hx2.cell (p:=⟨sb,k*2+j*2,none⟩) zr2).trans d0
    have b1:=(hx2.cell (p:=⟨sb,k*2+j*2+1,none⟩) zr2).trans d1
    have o2:=HO.out.ext hx2
    obtain⟨x,hxx⟩: ∃x,X[i]? =some x:=⟨_,zG (by omega)⟩
    obtain⟨c0,c1,_⟩:=iE o2 hxx
    have h':w2.ownsRow base 28 2 (.slice (some ⟨sb,0,none⟩) m cap) X.length (X.flatMap cellE.cells):=o2
    rw[hXm]at h'
    have f0:=h'.frozenAt (i*2)
    have f1:=h'.frozenAt (i*2+1)
    have O3:Hid (Own cellE ((w2.setCell ⟨sb,i*2,none⟩ (.int .i64 qa)).setCell ⟨sb,i*2+1,none⟩ (.int .i64 qb)) base 28 (.slice (some ⟨sb,0,none⟩) m cap) (X.set i (qa,qb))):=aA (o2.turnG (i:=i) (zJ hxx).1 (qa,qb))
    have T3:Hid (Touch (fun k=>k=sb) w ((w2.setCell ⟨sb,i*2,none⟩ (.int .i64 qa)).setCell ⟨sb,i*2+1,none⟩ (.int .i64 qb))):=aA (((HTT.out.trans (Touch.of_ext hx2)).setCell (p:=⟨sb,i*2,none⟩) (.inl rfl) _).setCell (p:=⟨sb,i*2+1,none⟩) (.inl rfl) _)
    clear d0 d1 e0 e1 hxx o2 h' hx2 hw2 HO hEq
    go_wp2_with fail
    go_roundw
    case rel=>exact⟨i+1,j+1,_,by go_num,by go_num,by omega,by omega,HN.out,O3.out,T3.out⟩
    simp[intOf];omega
   rw[hb]at hEq
   have heq:(qa,qb)=(pa,pb):=by rw[bB]at hb;simpa using hb
   have HN:=aA (HCC.out.same (by omega) HQ2.out (by rw[heq];exact HP2.out))
   clear heq hb
   go_wp2_with fail
   go_quiet (fail)
   go_wp2
   go_roundw
   case rel=>exact⟨i,j+1,X,rfl,by go_num,by omega,by omega,HN.out,HO.out.ext ((Ext.refl _).drewN _),HTT.out.drewN _⟩
   simp[intOf];omega
  obtain⟨r,hr⟩: ∃r,m=r∧k+j=r:=⟨m,rfl,by omega⟩
  have h':wr.ownsRow base 28 2 (.slice (some ⟨sb,0,none⟩) m cap) X.length (X.flatMap cellE.cells):=HO.out
  rw[hXm]at h'
  have hflen:(X.flatMap cellE.cells).length=m*2:=by rw[cellE.flat_len,hXm];rfl
  have him:i<m:=by omega
  obtain⟨zs,hzl,hcl⟩:=sO (P:=Tryz.prog) wr 37 28 0 (.agg #[.int .i64 0, .int .i64 0]) T_cellsG.under (fun w=>by kernel_rfl) (fun t ht=>by
    have ht2:t<2:=ht
    obtain rfl|rfl:t=0∨t=1:=by omega
    all_goals rfl) sb (i*2) (m-i) (cap-i) (by omega) (by decide) (fun t ht=>by
    have ht2:t<(m-i)*2:=ht
    rw[h'.cellAt (i*2+t) (by omega),zG (by omega)];rfl) (fun t ht=>h'.frozenAt _)
  have hzl2:zs.length=(m-i)*2:=hzl
  have FIN:=aA (Own.tail_setG (E:=cellE) (HO.out.cutG (i:=i) (by omega)) zs (by show i*2+zs.length≤cap*2;omega))
  have FT:=aA (pN sb zs (i*2) HTT.out (S:=fun k=>k=sb) rfl)
  have FM:Hid (∀c,c∈X.take i↔c∈L):=aA (fun c=>by
   rw[HCC.out.mem c,List.take_of_length_le (by rw[HL.out];omega)])
  have hi0:(i:Int)≤(m:Int):=by omega
  have hi1:(i:Int)≤(cap:Int):=by omega
  have hi2: ¬cap=i:=by omega
  clear h' hflen hzl hzl2 HO hr
  go_wp2_with fail
  go_ret
  exact⟨_,_,rfl,FIN.out,HCC.out.strict,FM.out,FT.out⟩
 obtain rfl:k=m:=by omega
 have HST:=aA (show L.Pairwise ltC by have:=HT.out;rwa [List.take_of_length_le (by rw[HL.out];exact Nat.le_refl _)]at this)
 go_wp2
 go_ret
 exact⟨_,L,rfl,HV.out.ext HX.out,HST.out,fun c=>Iff.rfl,Touch.of_ext HX.out⟩
theorem rH {w:World} {v:Value} {L:List aB} {base:Nat} (hm:L.length≤100000) (hs:L.Pairwise leC) (hv:Own cellE w base 28 v L):
  Calls Tryz.prog 137 #[v] w fun e w'=> ∃v' L',e= .returned v'∧Own cellE w' base 28 v' L'∧L'.Pairwise ltC∧(∀c,c∈L'↔c∈L)∧Touch (fun k=>v.ownBlock=some k) w w':=by
 obtain⟨a,c,rfl⟩:=hv.slice
 by_cases h2:2≤L.length
 ·rcases hv.2 with⟨h,h0⟩|⟨g,cap,cur,h,_⟩
  ·omega
  cases h
  refine(yJ rfl hm h2 hs hv).mono ?_
  rintro e w' ⟨v',L',rfl,o,s,mm,t⟩
  exact⟨v',L',rfl,o,s,mm,t.mono (fun k _ hk=>by rw[hk];rfl)⟩
 have HV:=aA hv
 have HST:=aA (show L.Pairwise ltC by
  rcases L with _|⟨x,_|⟨y,r⟩⟩
  ·exact List.Pairwise.nil
  ·exact List.pairwise_singleton _ _
  simp at h2)
 have hlt:(L.length:Int)<2:=by omega
 clear hv hs h2
 go_enter Tryz.func137,Tryz.ntmps137
 go_wp2
 go_ret
 exact⟨_,L,rfl,HV.out,HST.out,fun c=>Iff.rfl,Touch.refl _ _⟩
def vE (w:World) (L:List aB) (err:Int) (e:Ending) (w':World):Prop:= ∃v,e= .returned (.tuple #[v, .int .i64 err])∧Ext w w'∧Own cellE w' w.heap.size 28 v L
def Gath (W H s id:Int) (L:List (aB×aB)) (k:Nat) (R:List aB):Prop:=R.length≤2*k∧ ∀c,c∈R↔inK W H s id c∧gIn (L.take k) c=true
theorem yY {L:List (aB×aB)} {k:Nat} {g:aB×aB} (hg:L[k]? =some g) (c:aB):gIn (L.take (k+1)) c=(gIn (L.take k) c||(cK g.1 c||cK g.2 c)):=by
 unfold gIn
 rw[List.take_add_one,hg,List.any_append]
 simp
theorem Gath.skip {W H s id:Int} {L:List (aB×aB)} {k:Nat} {R:List aB} {g:aB×aB} (h:Gath W H s id L k R) (hk:0<k) (hg:L[k]? =some g) (hp:L[k-1]? =some g):Gath W H s id L (k+1) R:=by
 refine⟨by have:=h.1;omega,fun c=> ?_⟩
 rw[h.2 c,yY hg]
 refine and_congr_right (fun _=> ?_)
 rw[Bool.or_eq_true]
 constructor
 ·exact .inl
 rintro(h1|h1)
 ·exact h1
 rw[gIn_iff]
 refine⟨g,List.mem_of_getElem? (i:=k-1) (by rw[List.getElem?_take_of_lt (by omega)];exact hp),?_⟩
 simpa [bB] using h1
def GathJ (W H s id:Int) (L:List (aB×aB)) (k:Nat) (A B:aB) (j:Nat) (R:List aB):Prop:=R.length≤2*k+j∧ ∀c,c∈R↔inK W H s id c∧(gIn (L.take k) c=true∨c∈[A,B].take j)
theorem GathJ.start {W H s id:Int} {L:List (aB×aB)} {k:Nat} {A B:aB} {R:List aB} (h:Gath W H s id L k R):GathJ W H s id L k A B 0 R:=⟨h.1,fun c=>by rw[h.2 c];simp⟩
theorem GathJ.no {W H s id:Int} {L:List (aB×aB)} {k:Nat} {A B:aB} {j:Nat} {R:List aB} {q:aB} (h:GathJ W H s id L k A B j R) (hq:[A,B][j]? =some q) (hn: ¬inK W H s id q):GathJ W H s id L k A B (j+1) R:=by
 refine⟨by have:=h.1;omega,fun c=> ?_⟩
 rw[h.2 c,List.take_add_one,hq,List.mem_append]
 refine and_congr_right (fun hk=> ?_)
 constructor
 ·rintro(h1|h1)
  ·exact .inl h1
  exact .inr (.inl h1)
 rintro(h1|h1|h1)
 ·exact .inl h1
 ·exact .inr h1
 simp at h1;subst h1;exact absurd hk hn
theorem GathJ.yes {W H s id:Int} {L:List (aB×aB)} {k:Nat} {A B:aB} {j:Nat} {R:List aB} {q:aB} (h:GathJ W H s id L k A B j R) (hq:[A,B][j]? =some q) (hn:inK W H s id q):GathJ W H s id L k A B (j+1) (R++[q]):=by
 refine⟨by have:=h.1;simp;omega,fun c=> ?_⟩
 rw[List.mem_append,h.2 c,List.take_add_one,hq,List.mem_append]
 constructor
 ·rintro(⟨h1,h2⟩|h1)
  ·exact⟨h1,h2.imp (fun x=>x) .inl⟩
  simp at h1;subst h1;exact⟨hn, .inr (.inr (by simp))⟩
 rintro⟨h1,h2|h2|h2⟩
 ·exact .inl ⟨h1, .inl h2⟩
 ·exact .inl ⟨h1, .inr h2⟩
 exact .inr (by simpa using h2)
theorem GathJ.fin {W H s id:Int} {L:List (aB×aB)} {k:Nat} {A B:aB} {R:List aB} (h:GathJ W H s id L k A B 2 R) (hg:L[k]? =some (A,B)):Gath W H s id L (k+1) R:=by
 refine⟨by have:=h.1;omega,fun c=> ?_⟩
 rw[h.2 c,yY hg]
 refine and_congr_right (fun _=> ?_)
 simp only[Bool.or_eq_true,bB,decide_eq_true_eq]
 rw[show[A,B].take 2=[A,B] from rfl,List.mem_cons,List.mem_singleton, @eq_comm _ c A, @eq_comm _ c B]
set_option maxRecDepth 100000 in
set_option maxHeartbeats 2000000 in
theorem aBk (W H s id:Int) (a:Option Addr) (c:Nat) (L:List (aB×aB)) (w:World) (hr:aK W H s=true) (h0:0≤id) (hid:id<cnt W H s) (hl:L.length≤50000) (hL:0<L.length→Reads aT w (.slice a L.length c) L):
  Calls Tryz.prog 81 #[.agg #[.int .i64 W, .int .i64 H, .int .i64 s], .slice a L.length c, .int .i64 id] w (vE w (mH W H s id L) 0):=by
 have HM:=aA (fun c=>gP (L:=L) (c:=c) hr h0 hid)
 have HA:Hid (0<L.length→ ∃b off c',Value.slice a L.length c= .slice (some ⟨b,off,none⟩) L.length c'∧b<w.heap.size∧PairsAt w b off L):=aA (fun hp=>by
  rcases hL hp with⟨_,rfl⟩|⟨b,off,cap,hv,hb,hc⟩
  ·simp at hp
  exact⟨b,off,cap,hv,hb,(Reads.pairs (.inr ⟨b,off,cap,rfl,hb,hc⟩)).2⟩)
 clear hL
 go_enter Tryz.func81,Tryz.ntmps81
 go_wp2_with fail
 have BP:Hid (Blk (w.alloc (.cells #[.int .i64 W, .int .i64 H, .int .i64 s] 53)) w.heap.size 53 #[.int .i64 W, .int .i64 H, .int .i64 s]):=aA (Blk.new_ rfl)
 have X1:Hid (Ext w (w.alloc (.cells #[.int .i64 W, .int .i64 H, .int .i64 s] 53))):=aA z_x
 obtain⟨w1,hw1⟩: ∃w1,w.alloc (.cells #[.int .i64 W, .int .i64 H, .int .i64 s] 53)=w1:=⟨_,rfl⟩
 obtain⟨f,hf⟩: ∃f,w.heap.size=f:=⟨_,rfl⟩
 rw[hw1]at BP X1⊢
 rw[hf]at BP⊢
 clear hw1
 have HFW:=aA hf
 clear hf
 refine(uJ W H s id _ hr h0 hid).mono ?_
 rintro e w2 ⟨rfl,x2⟩
 obtain⟨bq,hbq⟩: ∃bq,min s (W-aR W s id)=bq:=⟨_,rfl⟩
 obtain⟨br,hbr⟩: ∃br,min s (H-aO W s id)=br:=⟨_,rfl⟩
 obtain⟨bs,hbs⟩: ∃bs,aR W s id=bs:=⟨_,rfl⟩
 obtain⟨bt,hbt⟩: ∃bt,aO W s id=bt:=⟨_,rfl⟩
 rw[hbq,hbr,hbs,hbt]
 clear hbq hbr hbs hbt
 have X2:=aA (show Ext w1 w2 from x2)
 clear x2
 go_wp2_with fail
 have X3:=aA (show Ext w1 (w2.alloc (.cells #[.int .i64 bs, .int .i64 bt, .int .i64 bq, .int .i64 br] 71)) from X2.out.trans ((Ext.refl _).alloc _))
 go_loopw [10,28] (fun o i wr=> ∃(k:Nat) (R:List aB),i= .int .i64 (k:Int)∧k≤L.length∧Gath W H s id L k R∧Ext w1 wr∧Own cellE wr w1.heap.size 28 o R) (fun _ i _=>L.length-(intOf i).toNat)
 case atStart=>exact⟨0,[],rfl,Nat.zero_le _,⟨by simp,fun c=>by simp[gIn]⟩,X3.out,Own.nil _ _ _ _⟩
 obtain⟨k,R,rfl,hk,hG,hx,ho⟩:=hrel
 have HG:=aA hG
 have HX:=aA hx
 have HO:=aA ho
 have hgl:=hG.1
 have hz:=hx.size
 obtain⟨ao,co,rfl⟩:=ho.slice
 clear hG hx ho X3 X2
 by_cases hlt:k<L.length
 ·obtain⟨b,off,c',hv,hb,hP⟩:=HA.out (by omega)
  simp only[Value.slice.injEq]at hv
  obtain⟨rfl,_,rfl⟩:=hv
  have hg:L[k]? =some L[k]:=zG hlt
  obtain⟨d0,d1,d2,d3⟩:=hP k hlt
  have HP:=aA (fun(j:Nat) (hj:j<L.length)=>hP j hj)
  have e0:=((X1.out.trans HX.out).cell (p:=⟨b,off+k*4,none⟩) hb).trans d0
  have e1:=((X1.out.trans HX.out).cell (p:=⟨b,off+k*4+1,none⟩) hb).trans d1
  have e2:=((X1.out.trans HX.out).cell (p:=⟨b,off+k*4+2,none⟩) hb).trans d2
  have e3:=((X1.out.trans HX.out).cell (p:=⟨b,off+k*4+3,none⟩) hb).trans d3
  obtain⟨g,hgg⟩: ∃g,L[k]=g:=⟨_,rfl⟩
  rw[hgg]at hg e0 e1 e2 e3
  have HGK:=aA hg
  obtain⟨⟨ga,gb⟩,⟨gc,gd⟩⟩:=g
  simp only at e0 e1 e2 e3
  clear d0 d1 d2 d3 hP hg hgg
  go_upto_region 8 with(fail)
  have B8:Hid (Blk (wr.alloc (.cells #[.int .i64 ga, .int .i64 gb, .int .i64 gc, .int .i64 gd] 160)) wr.heap.size 160 #[.int .i64 ga, .int .i64 gb, .int .i64 gc, .int .i64 gd]):=aA (Blk.new_ rfl)
  have XB:=aA (show Ext w1 (wr.alloc (.cells #[.int .i64 ga, .int .i64 gb, .int .i64 gc, .int .i64 gd] 160)) from HX.out.trans ((Ext.refl _).alloc _))
  have OB:=aA (HO.out.ext (show Ext wr (wr.alloc (.cells #[.int .i64 ga, .int .i64 gb, .int .i64 gc, .int .i64 gd] 160)) from(Ext.refl _).alloc _))
  obtain⟨wb,hwb⟩: ∃wb,wr.alloc (.cells #[.int .i64 ga, .int .i64 gb, .int .i64 gc, .int .i64 gd] 160)=wb:=⟨_,rfl⟩
  obtain⟨t,ht⟩: ∃t,wr.heap.size=t:=⟨_,rfl⟩
  rw[hwb]at B8 XB OB⊢
  rw[ht]at B8⊢
  have hzb:=XB.out.size
  have hbz:b<wb.heap.size:=Nat.lt_of_lt_of_le hb (X1.out.trans XB.out).size
  clear hwb ht e0 e1 e2 e3 HO HX hz
  have q0:=B8.out.at 0 rfl;have q1:=B8.out.at 1 rfl;have q2:=B8.out.at 2 rfl;have q3:=B8.out.at 3 rfl;have qz:=B8.out.lt
  by_cases k0:0<k
  ·have hp:=HP.out (k-1) (by omega)
   have e0:=((X1.out.trans XB.out).cell (p:=⟨b,off+(k-1)*4,none⟩) hb).trans hp.1
   have e1:=((X1.out.trans XB.out).cell (p:=⟨b,off+(k-1)*4+1,none⟩) hb).trans hp.2.1
   have e2:=((X1.out.trans XB.out).cell (p:=⟨b,off+(k-1)*4+2,none⟩) hb).trans hp.2.2.1
   have e3:=((X1.out.trans XB.out).cell (p:=⟨b,off+(k-1)*4+3,none⟩) hb).trans hp.2.2.2
   have hpg:L[k-1]? =some L[k-1]:=zG (by omega)
   obtain⟨p,hpp⟩: ∃p,L[k-1]'(by omega)=p:=⟨_,rfl⟩
   rw[hpp]at hpg e0 e1 e2 e3
   have HPG:=aA hpg
   obtain⟨⟨pa,pb⟩,⟨pc,pd⟩⟩:=p
   simp only at e0 e1 e2 e3
   have k1:(1:Int)≤(k:Int):=by omega
   have k2:((k:Int)-1).toNat=k-1:=by omega
   have k3:(k:Int)-1<(L.length:Int):=by omega
   have k4:(0:Int)≤(k:Int)-1:=by omega
   have hEq:=fun(w:World)=>aG1 9995 ga gb gc gd pa pb pc pd w
   clear hp hpg hpp
   have kw:IntKind.i64.wrap ((k:Int)-1)=(k:Int)-1:=IntWalk.i64_in _ (by omega)
   have HKW:=aA kw
   clear kw
   cases he:(ga==pa&&gb==pb&&(gc==pc&&gd==pd))
   ·rw[he]at hEq
    go_wp2_with fail
    have kw:=HKW.out
    refine aS wb [(0,true),(1,true),(2,true),(3,true),(4,true),(5,true),(6,true),(7,true),(8,true),(9,true),(10,true)] (fun hK0=> ?_)
    iterate 11 (refine SeqH.fr1 ?_;try simp only[zz])
    refine SeqH.done ?_
    clear kw
    have XC:=aA (XB.out.drew)
    have OC:=aA (OB.out.drew)
    clear hK0 hEq he e0 e1 e2 e3 k1 k2 k3 k4
    go_wp2_with fail
    have B9:Hid (Blk ((wb.alloc (.cells #[.int .i64 ga, .int .i64 gb, .int .i64 gc, .int .i64 gd] 28)).drew) wb.heap.size 28 #[.int .i64 ga, .int .i64 gb, .int .i64 gc, .int .i64 gd]):=aA (Blk.drew (Blk.new_ rfl))
    have XD:=aA (show Ext w1 ((wb.alloc (.cells #[.int .i64 ga, .int .i64 gb, .int .i64 gc, .int .i64 gd] 28)).drew) from(XB.out.alloc _).drew)
    have OD:=aA (show Own cellE ((wb.alloc (.cells #[.int .i64 ga, .int .i64 gb, .int .i64 gc, .int .i64 gd] 28)).drew) w1.heap.size 28 (.slice ao R.length co) R from(OB.out.alloc _).drew)
    obtain⟨wd,hwd⟩: ∃wd,(wb.alloc (.cells #[.int .i64 ga, .int .i64 gb, .int .i64 gc, .int .i64 gd] 28)).drew=wd:=⟨_,rfl⟩
    obtain⟨y,hy⟩: ∃y,wb.heap.size=y:=⟨_,rfl⟩
    rw[hwd]at B9 XD OD⊢
    rw[hy]at B9⊢
    have HYW:=aA hy
    clear hwd hy
    go_loopw [10,50] (fun o i wy=> ∃(j:Nat) (R':List aB),i= .int .i64 (j:Int)∧j≤2∧GathJ W H s id L k (ga,gb) (gc,gd) j R'∧Ext w1 wy∧Blk wy y 28 #[.int .i64 ga, .int .i64 gb, .int .i64 gc, .int .i64 gd]∧(∀z,o.ownBlock=some z→z≠y)∧Own cellE wy w1.heap.size 28 o R') (fun _ i _=>2-(intOf i).toNat)
    case atStart=>exact⟨0,R,rfl,by omega,GathJ.start HG.out,XD.out,B9.out,(fun z hz=>by have:=(aF OB.out hz).2;rw[HYW.out]at this;omega),OD.out⟩
    obtain⟨j,R',rfl,hj,hG',hx,hB9,hne,ho⟩:=hrel
    have HGJ:=aA hG'
    have HXJ:=aA hx
    have HB9:=aA hB9
    have HNE:=aA hne
    have hy9:=hB9.lt
    have HOJ:=aA ho
    have hgl':=hG'.1
    have hzj:w1.heap.size≤wr.heap.size:=HXJ.out.size
    obtain⟨aj,cj,rfl⟩:=ho.slice
    clear hG' ho hB9 hne
    by_cases hlt2:j<2
    ·obtain⟨q,hq⟩: ∃q,[(ga,gb),(gc,gd)][j]? =some q:=⟨_,zG (by simpa using hlt2)⟩
     have hcq:wr.cell? ⟨y,j*2,none⟩=some (.int .i64 q.1)∧wr.cell? ⟨y,j*2+1,none⟩=some (.int .i64 q.2):=by
      have h9:=HB9.out
      rcases (by omega:j=0∨j=1) with rfl|rfl
      ·simp at hq;subst hq;exact⟨h9.cell 0,h9.cell 1⟩
      simp at hq;subst hq;exact⟨h9.cell 2,h9.cell 3⟩
     obtain⟨qa,qb⟩:=q
     have HQ:=aA hq
     obtain⟨c0,c1⟩:=hcq
     simp only at c0 c1
     have hji:(j:Int)<2:=by omega
     have BPr:=aA (BP.out.ext HXJ.out)
     have p0:=BPr.out.at 0 rfl;have p1:=BPr.out.at 1 rfl;have p2:=BPr.out.at 2 rfl;have pz:=BPr.out.lt
     clear hq hx
     go_wp2_with fail
     by_cases hin:inB W H qa qb=true
     ·refine(lC W H s qa qb _ hr hin).mono ?_
      rintro e w6 ⟨rfl,x6⟩
      have X6:=aA (show Ext wr w6 from Ext.trans z_x x6)
      have k0':w6.cell? ⟨wr.heap.size,0,none⟩=some (.int .i64 qa):=(x6.cell (p:=⟨wr.heap.size,0,none⟩) (by simp)).trans (by simp)
      have k1':w6.cell? ⟨wr.heap.size,1,none⟩=some (.int .i64 qb):=(x6.cell (p:=⟨wr.heap.size,1,none⟩) (by simp)).trans (by simp)
      have HO6:=aA (HOJ.out.ext X6.out)
      have hz6:=X6.out.size
      clear x6
      by_cases hof:ofN W s qa qb=id
      ·have HN:=aA (HGJ.out.yes HQ.out ⟨hin,hof⟩)
       rw[hof]
       clear hof c0 c1 p0 p1 p2 pz
       go_wp2_with (at_builtin;refine dD cellE T_cellsG rfl _ _ rfl w1.heap.size _ _ R' rfl HO6.out (qa,qb) _ _ rfl _ rfl rfl (by omega) (by omega) (by omega) ?_;intro g9 c9 w9 o9 t9 l9;have O9:=aA o9;have T9:=aA (And.intro t9 l9);clear o9 t9 l9)
       go_roundw
       case rel=>exact⟨j+1,R'++[(qa,qb)],by go_num,by omega,HN.out,(HXJ.out.trans X6.out).of_below (T9.out.1.to_below (by omega) (fun z hz=>(aF HO6.out hz).1)) (Nat.le_refl _),(HB9.out.ext X6.out).touch T9.out.1 (fun hz=>HNE.out y hz rfl),(fun z hz=>by simp only[Value.ownBlock,Option.some.injEq]at hz;subst hz;rcases T9.out.2 with h|h;exact HNE.out _ h;omega),O9.out⟩
       simp[intOf];omega
      have HN:=aA (HGJ.out.no HQ.out (fun h=>hof h.2))
      have hof':(ofN W s qa qb==id)=false:=by simpa using hof
      generalize ofN W s qa qb=nn at *
      clear hof c0 c1 p0 p1 p2 pz
      go_wp2
      go_roundw
      case rel=>exact⟨j+1,R',by go_num,by omega,HN.out,HXJ.out.trans X6.out,HB9.out.ext X6.out,HNE.out,HO6.out⟩
      simp[intOf];omega
     refine(sJ W H s qa qb _ hr (by simpa using hin)).mono ?_
     rintro e w6 ⟨rfl,x6⟩
     have X6:=aA (show Ext wr w6 from Ext.trans z_x x6)
     have HO6:=aA (HOJ.out.ext X6.out)
     have HN:=aA (HGJ.out.no HQ.out (fun h=>hin h.1))
     clear x6 hin c0 c1 p0 p1 p2 pz
     go_wp2
     go_roundw
     case rel=>exact⟨j+1,R',by go_num,by omega,HN.out,HXJ.out.trans X6.out,HB9.out.ext X6.out,HNE.out,HO6.out⟩
     simp[intOf];omega
    obtain rfl:j=2:=by omega
    have HN:=aA (HGJ.out.fin HGK.out)
    clear hx
    go_wp2
    go_roundw
    case rel=>exact⟨k+1,R',by go_num,by omega,HN.out,HXJ.out,HOJ.out⟩
    simp[intOf];omega
   rw[he]at hEq
   have hpq:L[k-1]? =some ((ga,gb),(gc,gd)):=by
    simp only[Bool.and_eq_true,beq_iff_eq]at he
    obtain⟨⟨rfl,rfl⟩,rfl,rfl⟩:=he
    exact HPG.out
   have HS:=aA (HG.out.skip k0 HGK.out hpq)
   clear he hpq
   go_wp2_with fail
   have kw:=HKW.out
   refine aS wb [(0,true),(1,true),(2,true),(3,true),(4,true),(5,true),(6,true),(7,true),(8,true),(9,true),(10,true)] (fun hK0=> ?_)
   iterate 11 (refine SeqH.fr1 ?_;try simp only[zz])
   refine SeqH.done ?_
   clear kw hK0
   go_wp2
   go_roundw
   case rel=>exact⟨k+1,R,by go_num,by omega,HS.out,XB.out.drew,OB.out.drew⟩
   simp[intOf];omega
  have n1:decide (0<k)=false:=by simp;omega
  have n2:decide ((0:Int)<(k:Int))=false:=by simp;omega
  have n3:k≤0:=by omega
  go_wp2_with fail
  refine aS wb [(0,true),(1,true),(2,true),(3,true),(4,true),(5,true),(6,true),(7,true),(8,true),(9,true),(10,true)] (fun hK0=> ?_)
  iterate 11 (refine SeqH.fr1 ?_;try simp only[zz])
  refine SeqH.done ?_
  have XC:=aA (XB.out.drew)
  have OC:=aA (OB.out.drew)
  clear hK0 n1 n2 n3
  go_wp2_with fail
  have B9:Hid (Blk ((wb.alloc (.cells #[.int .i64 ga, .int .i64 gb, .int .i64 gc, .int .i64 gd] 28)).drew) wb.heap.size 28 #[.int .i64 ga, .int .i64 gb, .int .i64 gc, .int .i64 gd]):=aA (Blk.drew (Blk.new_ rfl))
  have XD:=aA (show Ext w1 ((wb.alloc (.cells #[.int .i64 ga, .int .i64 gb, .int .i64 gc, .int .i64 gd] 28)).drew) from(XB.out.alloc _).drew)
  have OD:=aA (show Own cellE ((wb.alloc (.cells #[.int .i64 ga, .int .i64 gb, .int .i64 gc, .int .i64 gd] 28)).drew) w1.heap.size 28 (.slice ao R.length co) R from(OB.out.alloc _).drew)
  obtain⟨wd,hwd⟩: ∃wd,(wb.alloc (.cells #[.int .i64 ga, .int .i64 gb, .int .i64 gc, .int .i64 gd] 28)).drew=wd:=⟨_,rfl⟩
  obtain⟨y,hy⟩: ∃y,wb.heap.size=y:=⟨_,rfl⟩
  rw[hwd]at B9 XD OD⊢
  rw[hy]at B9⊢
  have HYW:=aA hy
  clear hwd hy
  go_loopw [10,50] (fun o i wy=> ∃(j:Nat) (R':List aB),i= .int .i64 (j:Int)∧j≤2∧GathJ W H s id L k (ga,gb) (gc,gd) j R'∧Ext w1 wy∧Blk wy y 28 #[.int .i64 ga, .int .i64 gb, .int .i64 gc, .int .i64 gd]∧(∀z,o.ownBlock=some z→z≠y)∧Own cellE wy w1.heap.size 28 o R') (fun _ i _=>2-(intOf i).toNat)
  case atStart=>exact⟨0,R,rfl,by omega,GathJ.start HG.out,XD.out,B9.out,(fun z hz=>by have:=(aF OB.out hz).2;rw[HYW.out]at this;omega),OD.out⟩
  obtain⟨j,R',rfl,hj,hG',hx,hB9,hne,ho⟩:=hrel
  have HGJ:=aA hG'
  have HXJ:=aA hx
  have HB9:=aA hB9
  have HNE:=aA hne
  have hy9:=hB9.lt
  have HOJ:=aA ho
  have hgl':=hG'.1
  have hzj:w1.heap.size≤wr.heap.size:=HXJ.out.size
  obtain⟨aj,cj,rfl⟩:=ho.slice
  clear hG' ho hB9 hne
  by_cases hlt2:j<2
  ·obtain⟨q,hq⟩: ∃q,[(ga,gb),(gc,gd)][j]? =some q:=⟨_,zG (by simpa using hlt2)⟩
   have hcq:wr.cell? ⟨y,j*2,none⟩=some (.int .i64 q.1)∧wr.cell? ⟨y,j*2+1,none⟩=some (.int .i64 q.2):=by
    have h9:=HB9.out
    rcases (by omega:j=0∨j=1) with rfl|rfl
    ·simp at hq;subst hq;exact⟨h9.cell 0,h9.cell 1⟩
    simp at hq;subst hq;exact⟨h9.cell 2,h9.cell 3⟩
   obtain⟨qa,qb⟩:=q
   have HQ:=aA hq
   obtain⟨c0,c1⟩:=hcq
   simp only at c0 c1
   have hji:(j:Int)<2:=by omega
   have BPr:=aA (BP.out.ext HXJ.out)
   have p0:=BPr.out.at 0 rfl;have p1:=BPr.out.at 1 rfl;have p2:=BPr.out.at 2 rfl;have pz:=BPr.out.lt
   clear hq hx
   go_wp2_with fail
   by_cases hin:inB W H qa qb=true
   ·refine(lC W H s qa qb _ hr hin).mono ?_
    rintro e w6 ⟨rfl,x6⟩
    have X6:=aA (show Ext wr w6 from Ext.trans z_x x6)
    have k0':w6.cell? ⟨wr.heap.size,0,none⟩=some (.int .i64 qa):=(x6.cell (p:=⟨wr.heap.size,0,none⟩) (by simp)).trans (by simp)
    have k1':w6.cell? ⟨wr.heap.size,1,none⟩=some (.int .i64 qb):=(x6.cell (p:=⟨wr.heap.size,1,none⟩) (by simp)).trans (by simp)
    have HO6:=aA (HOJ.out.ext X6.out)
    have hz6:=X6.out.size
    clear x6
    by_cases hof:ofN W s qa qb=id
    ·have HN:=aA (HGJ.out.yes HQ.out ⟨hin,hof⟩)
     rw[hof]
     clear hof c0 c1 p0 p1 p2 pz
     go_wp2_with (at_builtin;refine dD cellE T_cellsG rfl _ _ rfl w1.heap.size _ _ R' rfl HO6.out (qa,qb) _ _ rfl _ rfl rfl (by omega) (by omega) (by omega) ?_;intro g9 c9 w9 o9 t9 l9;have O9:=aA o9;have T9:=aA (And.intro t9 l9);clear o9 t9 l9)
     go_roundw
     case rel=>exact⟨j+1,R'++[(qa,qb)],by go_num,by omega,HN.out,(HXJ.out.trans X6.out).of_below (T9.out.1.to_below (by omega) (fun z hz=>(aF HO6.out hz).1)) (Nat.le_refl _),(HB9.out.ext X6.out).touch T9.out.1 (fun hz=>HNE.out y hz rfl),(fun z hz=>by simp only[Value.ownBlock,Option.some.injEq]at hz;subst hz;rcases T9.out.2 with h|h;exact HNE.out _ h;omega),O9.out⟩
     simp[intOf];omega
    have HN:=aA (HGJ.out.no HQ.out (fun h=>hof h.2))
    have hof':(ofN W s qa qb==id)=false:=by simpa using hof
    generalize ofN W s qa qb=nn at *
    clear hof c0 c1 p0 p1 p2 pz
    go_wp2
    go_roundw
    case rel=>exact⟨j+1,R',by go_num,by omega,HN.out,HXJ.out.trans X6.out,HB9.out.ext X6.out,HNE.out,HO6.out⟩
    simp[intOf];omega
   refine(sJ W H s qa qb _ hr (by simpa using hin)).mono ?_
   rintro e w6 ⟨rfl,x6⟩
   have X6:=aA (show Ext wr w6 from Ext.trans z_x x6)
   have HO6:=aA (HOJ.out.ext X6.out)
   have HN:=aA (HGJ.out.no HQ.out (fun h=>hin h.1))
   clear x6 hin c0 c1 p0 p1 p2 pz
   go_wp2
   go_roundw
   case rel=>exact⟨j+1,R',by go_num,by omega,HN.out,HXJ.out.trans X6.out,HB9.out.ext X6.out,HNE.out,HO6.out⟩
   simp[intOf];omega
  obtain rfl:j=2:=by omega
  have HN:=aA (HGJ.out.fin HGK.out)
  clear hx
  go_wp2
  go_roundw
  case rel=>exact⟨k+1,R',by go_num,by omega,HN.out,HXJ.out,HOJ.out⟩
  simp[intOf];omega
 obtain rfl:k=L.length:=by omega
 have hRl:R.length≤100000:=by omega
 go_wp2_with fail
 refine(aHx HO.out (by omega)).mono ?_
 rintro e w5 ⟨rfl,o5,t5⟩
 have O5:=aA o5
 have X5:=aA (HX.out.of_below (t5.to_below hz (fun z hz=>(aF HO.out hz).1)) (Nat.le_refl _))
 have hl5:(gS R).length=R.length:=(gT R).length_eq
 have HL5:=aA hl5
 clear o5 t5 hl5
 go_wp2_with fail
 refine(rH (by rw[HL5.out];omega) (qQ R) O5.out).mono ?_
 rintro e w6 ⟨v6,L6,rfl,o6,st6,mm6,t6⟩
 have hE:L6=mH W H s id L:=iL st6 (lI W H s id L) (fun c=>by
  rw[mm6,(gT R).mem_iff,HG.out.2 c,HM.out c,List.take_of_length_le (Nat.le_refl _)])
 subst hE
 obtain⟨a6,c6,rfl⟩:=o6.slice
 have O6:=aA o6
 have X6:=aA (X5.out.of_below (t6.to_below X5.out.size (fun z hz=>(aF O5.out hz).1)) (Nat.le_refl _))
 clear o6 st6 mm6 t6
 go_wp2_with fail
 go_ret2
 exact⟨_,rfl,X1.out.trans X6.out,O6.out.lower X1.out.size⟩
end Go.Proofs.YtaellcgglldjaaaGreat

