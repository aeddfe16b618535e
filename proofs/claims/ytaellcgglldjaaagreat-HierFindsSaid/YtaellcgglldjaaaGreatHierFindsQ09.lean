/- Part of a proof: MapG. -/
import Derived.Test.YtaellcgglldjaaaGreatHierFindsQ01
import Derived.WideKeyEntry
set_option linter.all false
set_option linter.unusedVariables false
set_option linter.unusedSimpArgs false
namespace Go.Proofs.YtaellcgglldjaaaGreat
open Go.RowKit Go.ChangeMaps Go.MapKept Go.WideElems
open Go.Maps (Keyed)
theorem eZ {w w':World} {b:Nat} (h:w.mapTurned w' b) {S:Nat→Prop} (hs:S b):Touch S w w':=(Touch.refl S w).grown h.grown (fun k hk=> .inl (by cases hk;exact hs))
theorem vQ {H:Type} {P:Program} {k e t:TypeId} {R:Value→Option (DataW H×List MemPlace)} {w:World} {b n:Nat} {D:DataW H} (h:w.ownsMap P k R b n D) (K:Keyed P k) (ht:P.underlying t=some (.map k e)) {z:Value} (hz: ∀u:World,(zeroValue e).run P u= .ok z u) (hn:n<maxLen)
  {key val:Value} {kl:Lit} {d:DataW H} {ps:List MemPlace} (hkey:keyOf P k key=some kl) (hv:R val=some (d,ps)):
  ∃(v0:Value) (st:Nat) (w1 w2:World),(Instr.mapEntry t (.map (some b)) key).run P w= .ok (.tuple #[v0, .int .i64 st]) w1∧w.mapTurned w1 b∧
   (Instr.entryStore t (.map (some b)) (.int .i64 st) val).run P w1= .ok () w2∧w2.ownsMap P k R b (n+1) (D.put kl d)∧w.mapTurned w2 b:=by
 obtain⟨w',hrun,r1,r2⟩:=h.store K ht hn hkey hv
 obtain⟨es,clock,hb,F,hs,rfl⟩:=h
 obtain⟨s1,s2,_⟩:=F.stamped
 rcases K.find w hkey es.toList F.keys with⟨h1,h2⟩|⟨j,e0,h1,h2,h3⟩
 ·have hb1:(setBlock w b (.map (es.push ⟨key,z,clock⟩) (clock+1))).heap[b]? =some (.map (es.push ⟨key,z,clock⟩) (clock+1)):=heap_setBlock_same hb _
  have hidx:(es.push ⟨key,z,clock⟩).findIdx? (fun e=>((e.born:Nat):Int)==((clock:Nat):Int))=some es.size:=by
   rw[findIdx_arr]
   have:=findIdx_born (l:=(es.push ⟨key,z,clock⟩).toList) (j:=es.size) (e0:=⟨key,z,clock⟩) (by
    simp only[Array.toList_push,List.map_append,List.map_cons,List.map_nil]
    refine List.nodup_append.2 ⟨s2,by simp,fun a ha c hc e1=> ?_⟩
    simp only[List.mem_singleton]at hc
    obtain⟨x,hx,rfl⟩:=List.mem_map.1 ha
    have:=s1 x hx
    omega) (by simp)
   exact this
  have hmod:(es.push ⟨key,z,clock⟩).modify es.size (fun e=>{e with val:=val})=es.push ⟨key,val,clock⟩:=by
   apply Array.ext'
   rw[Array.toList_modify,Array.toList_push,Array.toList_push,←Array.length_toList,modify_last]
  have hrun':(Instr.mapUpdate t (.map (some b)) key val).run P w= .ok () (setBlock w b (.map (es.push ⟨key,val,clock⟩) (clock+1))):=by
   simp[Instr.mapUpdate,run_underlying ht,MapKept.run_getObj_map hb,K.check w false hkey,h1,MapKept.run_setObj_map _ hb,Result.andThen,setBlock]
  rw[hrun]at hrun'
  simp only[Result.ok.injEq,true_and]at hrun'
  subst hrun'
  refine⟨z,clock,setBlock w b (.map (es.push ⟨key,z,clock⟩) (clock+1)),_,?_,⟨es,clock,_,_,hb,rfl⟩,?_,r1,r2⟩
  ·simp[Instr.mapEntry,run_underlying ht,MapKept.run_getObj_map hb,K.check w false hkey,h1,hz,MapKept.run_setObj_map _ hb,Result.andThen,setBlock,goInt]
  simp[Instr.entryStore,MapKept.run_getObj_map hb1,asInt,asIntOf,hidx,hmod,MapKept.run_setObj_map _ hb1,Result.andThen]
  simp[setBlock]
 have hj:es[j]? =some e0:=by simpa using h2
 have hsame:es.modify j (fun e=>{e with key:=key})=es:=by
  apply Array.ext'
  rw[Array.toList_modify,modify_eq_set _ _ _ _ h2]
  have:({e0 with key:=key}:MapEntry)=e0:=by rw[←h3]
  rw[this]
  exact set_self _ _ _ h2
 have hb1:(setBlock w b (.map es clock)).heap[b]? =some (.map es clock):=heap_setBlock_same hb _
 have hidx:es.findIdx? (fun e=>((e.born:Nat):Int)==((e0.born:Nat):Int))=some j:=by
  rw[findIdx_arr]
  exact findIdx_born s2 h2
 have hmod:es.modify j (fun e=>{e with val:=val})=es.modify j (fun e'=>{e' with key:=key,val:=val}):=by
  apply Array.ext'
  rw[Array.toList_modify,Array.toList_modify,modify_eq_set _ _ _ _ h2,modify_eq_set _ _ _ _ h2,←h3]
 have hrun':(Instr.mapUpdate t (.map (some b)) key val).run P w= .ok () (setBlock w b (.map (es.modify j (fun e'=>{e' with key:=key,val:=val})) clock)):=by
  simp[Instr.mapUpdate,run_underlying ht,MapKept.run_getObj_map hb,K.check w false hkey,h1,hj,h3,K.stays w hkey,MapKept.run_setObj_map _ hb,Result.andThen,setBlock]
 rw[hrun]at hrun'
 simp only[Result.ok.injEq,true_and]at hrun'
 subst hrun'
 refine⟨e0.val,e0.born,setBlock w b (.map es clock),_,?_,⟨es,clock,_,_,hb,rfl⟩,?_,r1,r2⟩
 ·simp[Instr.mapEntry,run_underlying ht,MapKept.run_getObj_map hb,K.check w false hkey,h1,hj,h3,K.stays w hkey,hsame,MapKept.run_setObj_map _ hb,Result.andThen,setBlock,goInt]
 simp[Instr.entryStore,MapKept.run_getObj_map hb1,asInt,asIntOf,hidx,hmod,MapKept.run_setObj_map _ hb1,Result.andThen]
 simp[setBlock]
structure MapK where
 tm:TypeId
 tk:TypeId
 te:TypeId
 qk:IntKind
 qe:IntKind
structure MapK.Ok (P:Program) (K:MapK):Prop where
 under:P.underlying K.tm=some (.map K.tk K.te)
 key:P.underlying K.tk=some (.int K.qk)
 elem:P.underlying K.te=some (.int K.qe)
 zero: ∀w:World,(zeroValue K.te).run P w= .ok (.int K.qe 0) w
def bN (q:IntKind) (x:Int):Prop:=(Lit.int q x).wf=true
theorem aE5 {q:IntKind} {x:Int}:WideAt.IsKeyLit (.int q x):=trivial
def MapIn (P:Program) (K:MapK) (w:World) (b:Nat) (f:Int→Option Int) (N:Nat):Prop:=
 ∃D:DataW Unit,w.ownsMap P K.tk (plainElem P K.te) b N D∧Maps.size D=N∧ ∀x,Maps.has D (.int K.qk x)=(f x).isSome∧ ∀c,f x=some c→D.atKey (.int K.qk x) (.lit (.int K.qe 0))= .lit (.int K.qe c)
theorem nP {H:Type} {P:Program} {k:TypeId} {R:Value→Option (DataW H×List MemPlace)} {w:World} {b n:Nat} {D:DataW H} (h:w.ownsMap P k R b n D):w.ownsMap P k R b (Maps.size D) D:=by
 obtain⟨es,clock,hb,F,_,rfl⟩:=h
 exact⟨es,clock,hb,F,by simp[Maps.size,length_sorted],rfl⟩
section
variable {P:Program} {K:MapK} {w w':World} {b N:Nat} {f:Int→Option Int}
theorem MapIn.made (w:World):MapIn P K (w.alloc (.map #[] 0)) w.heap.size (fun _=>none) 0:=
 ⟨.map [],World.ownsMap_made _ _ _ _,rfl,fun x=>⟨rfl,fun c hc=>by cases hc⟩⟩
theorem MapIn.lt (h:MapIn P K w b f N):b<w.heap.size:=by obtain⟨D,h,_⟩:=h;exact h.lt
theorem MapIn.touch {S:Nat→Prop} (h:MapIn P K w b f N) (t:Touch S w w') (hs: ¬S b):MapIn P K w' b f N:=by
 obtain⟨D,h1,h2⟩:=h
 exact⟨D,lN h1 t hs,h2⟩
theorem MapIn.ext (h:MapIn P K w b f N) (t:Ext w w'):MapIn P K w' b f N:=h.touch (Touch.of_ext (S:=fun _=>False) t) (fun x=>x)
theorem MapIn.drew (h:MapIn P K w b f N):MapIn P K w.drew b f N:=h
theorem MapIn.drewN (h:MapIn P K w b f N) (k:Nat):MapIn P K (w.drewN k) b f N:=h
theorem MapIn.congr {g:Int→Option Int} (h:MapIn P K w b f N) (e: ∀x,f x=g x):MapIn P K w b g N:=by
 have:f=g:=funext e
 rwa [←this]
def upd (f:Int→Option Int) (x c:Int) (y:Int):Option Int:=if y=x then some c else f y
def del (f:Int→Option Int) (x:Int) (y:Int):Option Int:=if y=x then none else f y
theorem MapIn.put {w2:World} {D:DataW Unit} {n x c:Int} {M:Nat} (hs:Maps.size D=N) (hf: ∀x,Maps.has D (.int K.qk x)=(f x).isSome∧ ∀c,f x=some c→D.atKey (.int K.qk x) (.lit (.int K.qe 0))= .lit (.int K.qe c)) (tidy:Maps.Tidy D)
  (h:w2.ownsMap P K.tk (plainElem P K.te) b M (D.put (.int K.qk x) (.lit (.int K.qe c)))):MapIn P K w2 b (upd f x c) (if(f x).isSome then N else N+1):=by
 have e:Maps.size (D.put (.int K.qk x) (.lit (.int K.qe c)))=if(f x).isSome then N else N+1:=by
  rw[Maps.size_put tidy,(hf x).1,hs]
 refine⟨_,e▸nP h,e,fun y=> ?_⟩
 unfold upd
 by_cases hy:y=x
 ·subst hy
  rw[Maps.has_put_same tidy.isMap aE5]
  simp only[if_true]
  exact⟨rfl,fun c' hc=>by cases hc;exact Maps.atKey_put_same tidy.isMap aE5 _ _⟩
 have hne:(Lit.int K.qk y)≠ .int K.qk x:=by simpa using hy
 rw[Maps.has_put_other hne]
 simp only[if_neg hy]
 exact⟨(hf y).1,fun c' hc=>by rw[Maps.atKey_put_other hne];exact(hf y).2 c' hc⟩
theorem MapIn.entry (O:K.Ok P) (h:MapIn P K w b f N) {x c:Int} (hx:bN K.qk x) (hc:bN K.qe c) (hN:N≤1000000):
  ∃(v0:Value) (st:Nat) (w1 w2:World),(Instr.mapEntry K.tm (.map (some b)) (.int K.qk x)).run P w= .ok (.tuple #[v0, .int .i64 st]) w1∧Touch (fun k=>k=b) w w1∧
   (Instr.entryStore K.tm (.map (some b)) (.int .i64 st) (.int K.qe c)).run P w1= .ok () w2∧MapIn P K w2 b (upd f x c) (if(f x).isSome then N else N+1)∧Touch (fun k=>k=b) w w2:=by
 obtain⟨D,h1,h2,h3⟩:=h
 have KK:=Maps.int_keyed O.key
 have tidy:=h1.tidy KK
 obtain⟨v0,st,w1,w2,e1,t1,e2,o2,t2⟩:=vQ h1 KK O.under O.zero (by unfold maxLen;omega) (Maps.keyOf_int_mk O.key hx) (plainElem_int (H:=Unit) O.elem hc)
 exact⟨v0,st,w1,w2,e1,eZ t1 rfl,e2,MapIn.put (n:=0) h2 h3 tidy o2,eZ t2 rfl⟩
end
section
variable {P:Program} {K:MapK} (w:World) {ops:Array Oper} {rest:List Oper} {o:Oper} {a:Act} {Q:Exit→Act→World→Prop}
theorem dS (O:K.Ok P) (hg:o.guard=none) (m x:Operand) (hop:o.op=Op.lookup K.tm m x true) (b N:Nat) (f:Int→Option Int) (hm:a.eval m= .map (some b)) (hown:MapIn P K w b f N) (k:Int) (hx:a.eval x= .int K.qk k) (hk:bN K.qk k)
  (hK: ∀c:Int,(∀c',f k=some c'→c=c')→wpList P ops Q rest (a.put o.dst (.tuple #[.int K.qe c, .bool (f k).isSome])) w):wpList P ops Q (o::rest) a w:=by
 obtain⟨D,h1,h2,h3⟩:=hown
 refine wpList_lookup_own_ok_int w hg m x K.tm hop K.tk K.te K.qe (Maps.int_keyed O.key) O.under O.elem (O.zero w) b N D hm h1 _ _ hx (Maps.keyOf_int_mk O.key hk) ?_
 intro c hat _
 rw[(h3 k).1]
 refine hK c fun c' hc=> ?_
 have:=(h3 k).2 c' hc
 rw[this]at hat
 simpa using hat.symm
theorem aCc (O:K.Ok P) (hg:o.guard=none) (m x v:Operand) (hop:o.op=Op.mapUpdate K.tm m x v) (b N:Nat) (f:Int→Option Int) (hm:a.eval m= .map (some b)) (hown:MapIn P K w b f N) (k:Int) (hx:a.eval x= .int K.qk k) (hk:bN K.qk k) (c:Int) (hv:a.eval v= .int K.qe c) (hc:bN K.qe c) (hN:N≤1000000)
  (hK: ∀w',MapIn P K w' b (upd f k c) (if(f k).isSome then N else N+1)→Touch (fun j=>j=b) w w'→wpList P ops Q rest (a.put o.dst undef) w'):wpList P ops Q (o::rest) a w:=by
 obtain⟨D,h1,h2,h3⟩:=hown
 have KK:=Maps.int_keyed O.key
 have tidy:=h1.tidy KK
 refine wpList_mapUpdate_in w hg m x v K.tm hop K.tk K.te KK O.under _ b N D hm h1 (by unfold maxLen;omega) _ _ _ hx hv (Maps.keyOf_int_mk O.key hk) _ [] (plainElem_int (H:=Unit) O.elem hc) ?_
 intro w' o' t'
 exact hK w' (MapIn.put (n:=0) h2 h3 tidy o') (eZ t' rfl)
end
end Go.Proofs.YtaellcgglldjaaaGreat

