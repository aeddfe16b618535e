/- Part of a proof: StarD StarE. -/
import Derived.Test.YtaellcgglldjaaaGreatHierNodesQ26
import Derived.Test.YtaellcgglldjaaaGreatHierNodesQ01
set_option linter.all false
set_option linter.unusedVariables false
set_option linter.unusedSimpArgs false
namespace Go.Proofs.YtaellcgglldjaaaGreat
open Go.RowKit
theorem tR {P:Program} (w:World) (t e ty:TypeId) (z:Value) (ht:P.underlying t=some (.slice e)) (hv: ∀w,(zeroValue e).run P w= .ok z w) (h1: ∀i,i<z.cells.size→(z.cells[i]!).oneCell'=true) (b o n c:Nat) (hn:0<n) (hs:0<z.cells.size)
  (hc: ∀j,j<n*z.cells.size→(w.cell? ⟨b,o+j,none⟩).isSome=true) (hf: ∀j,j<n*z.cells.size→w.frozen? ⟨b,o+j,none⟩=false):
  ∃zs:List Value,zs.length=n*z.cells.size∧(Builtin.clear_ #[t] ty #[.slice (some ⟨b,o,none⟩) n c]).run P w= .ok (.tuple #[]) (w.setCells b o zs):=by
 have hlen:(Builtin.zeroCells z.cells n).toList.length=n*z.cells.size:=by simp[Builtin.zeroCells]
 refine⟨(Builtin.zeroCells z.cells n).toList,hlen,?_⟩
 have hone: ∀v∈(Builtin.zeroCells z.cells n).toList,v.oneCell'=true:=by
  intro v hv'
  unfold Builtin.zeroCells at hv'
  simp only[Array.toList_map,Array.toList_range,List.mem_map,List.mem_range]at hv'
  obtain⟨i,_,rfl⟩:=hv'
  exact h1 _ (Nat.mod_lt _ hs)
 have hst:=run_storeCells_cells (P:=P) b o (Builtin.zeroCells z.cells n).toList 0 w (by rw[hlen];simpa using hc) (by rw[hlen];simpa using hf) hone
 simp only[Nat.add_zero]at hst
 obtain⟨m,rfl⟩: ∃m,n=m+1:=⟨n-1,by omega⟩
 simp[Builtin.clear_,run_underlying ht,hv,hst]
theorem wX (a:Option Addr) (c:Nat) (f:Nat) (caps:Array Value) (w:World):Calls Tryz.prog 122 #[.slice a 0 c, .func (.func f) #[] caps] w fun e w'=>e= .returned (.int .i64 (-1))∧w=w':=by
 go_enter Tryz.func122,Tryz.ntmps122
 go_wp2
 go_loop [8] (fun i=>i= .int .i64 0) (fun _=>0)
 case atStart=>rfl
 case round=>
  obtain rfl:=hrel
  go_wp2
  go_ret
  exact⟨rfl,rfl⟩
theorem aA2 {w:World} {sb:Nat} {m cap f:Nat} {caps:Array Value} {L:List aB} {p:aB→Bool} {base:Nat} (hL:L.length=m) (hm:m≤1000) (hv:Own cellE w base 28 (.slice (some ⟨sb,0,none⟩) m cap) L)
  (hp: ∀w',Ext w w'→ ∀q,q∈L→Calls Tryz.prog f (#[.agg #[.int .i64 q.1, .int .i64 q.2]]++caps) w' fun e w2=>e= .returned (.bool (p q))∧Ext w' w2)
  (eg: ∀args w,(callFunc f args).run Tryz.prog w= .ok (.enter f args) w)
  (hno: ∀q,q∈L→p q=false):
  Calls Tryz.prog 122 #[.slice (some ⟨sb,0,none⟩) m cap, .func (.func f) #[] caps] w fun e w'=>e= .returned (.int .i64 (-1))∧Ext w w':=by
 have HV:=aA hv
 have HP:=aA hp
 have HNO:=aA hno
 have HL:=aA hL
 have zb:=(aG hv rfl).2
 clear hv hp hno hL
 go_enter Tryz.func122,Tryz.ntmps122
 go_wp2
 go_loopw [8] (fun i wr=> ∃k:Nat,k≤m∧i= .int .i64 k∧Ext w wr) (fun i _=>m-(intOf i).toNat)
 case atStart=>exact⟨0,Nat.zero_le _,rfl,Ext.refl _⟩
 case round=>
  obtain⟨k,hkk,rfl,hext⟩:=hrel
  have hz:=hext.size
  by_cases hlt:k<m
  ·obtain⟨q,hq⟩: ∃q,L[k]? =some q:=⟨_,List.getElem?_eq_getElem (by rw[HL.out];exact hlt)⟩
   obtain⟨d0,d1,_⟩:=dT (HV.out.ext hext) hq
   have hki:(k:Int)<(m:Int):=by omega
   have HQ:=aA (fun w' (hx:Ext wr w')=>HP.out w' (hext.trans hx) q (List.mem_of_getElem? hq))
   have zr:sb<wr.heap.size:=by omega
   have hf:=HNO.out q (List.mem_of_getElem? hq)
   rw[hf]at HQ
   clear hq hf
   go_wp2_with fail
   refine(HQ.out _ (Ext.refl _)).mono ?_
   rintro e w2 ⟨rfl,hb2⟩
   go_wp2
   go_roundw
   case rel=>exact⟨k+1,hlt,by go_num,hext.trans hb2⟩
   case measure=>simp[intOf];omega
  ·go_wp2
   go_ret
   exact⟨rfl,hext⟩
theorem aGo {α:Type} (E:Enc α) (l:List α): ∀i,(l.take i).flatMap E.cells=(l.flatMap E.cells).take (i*E.size):=by
 induction l with
 |nil=>simp
 |cons a l ih=>
  intro i
  cases i with
  |zero=>simp
  |succ i=>
   rw[List.take_succ_cons,List.flatMap_cons,List.flatMap_cons,ih,List.take_append,E.len,Nat.add_mul,Nat.one_mul,Nat.add_sub_cancel]
   rw[List.take_of_length_le (l:=E.cells a) (by rw[E.len];omega)]
theorem Own.cut {α:Type} {E:Enc α} {w:World} {base:Nat} {e:TypeId} {g n c i:Nat} {l:List α} (h:Own E w base e (.slice (some ⟨g,0,none⟩) n c) l) (hi:i≤n):Own E w base e (.slice (some ⟨g,0,none⟩) i c) (l.take i):=by
 obtain⟨a',c',e'⟩:=h.slice
 have en:n=l.length:=by injection e'
 subst en
 rcases h.2 with⟨h0,_⟩|⟨g',cap,cur,hv,hb,hg,h1,h2,h3,h4⟩
 ·cases h0
 ·cases hv
  have hl:(l.take i).length=i:=by rw[List.length_take];omega
  refine⟨by rw[E.flat_len], .inr ⟨g,c,cur,by rw[hl],hb,hg,by rw[hl];omega,h2,h3,?_⟩⟩
  rw[hl,aGo,←h4,List.take_take]
  congr 1
  exact(Nat.min_eq_left (Nat.mul_le_mul_right _ hi)).symm
theorem Own.tail_set {α:Type} {E:Enc α} {w:World} {base:Nat} {e:TypeId} {g i c:Nat} {l:List α} (h:Own E w base e (.slice (some ⟨g,0,none⟩) i c) l) (zs:List Value) (hfit:i*E.size+zs.length≤c*E.size):Own E (w.setCells g (i*E.size) zs) base e (.slice (some ⟨g,0,none⟩) i c) l:=by
 obtain⟨a',c',e'⟩:=h.slice
 have en:i=l.length:=by injection e'
 subst en
 rcases h.2 with⟨h0,_⟩|⟨g',cap,cur,hv,hb,hg,h1,h2,h3,h4⟩
 ·cases h0
 ·cases hv
  obtain⟨cur1,k1,k2,k3⟩:=mW g e zs (l.length*E.size) w cur hg (by omega)
  refine⟨by rw[E.flat_len], .inr ⟨g,c,cur1,rfl,hb,k1,h1,h2,by omega,?_⟩⟩
  rw[k3,←h4,List.append_assoc,List.take_append,List.length_take]
  rw[List.take_take]
  have:min (l.length*E.size) cur.toList.length=l.length*E.size:=Nat.min_eq_left (by have:=Array.length_toList (xs:=cur);omega)
  rw[this,Nat.min_self,Nat.sub_self,List.take_zero,List.append_nil]
structure DelAt (L:List aB) (p:aB→Bool) (X:List aB) (i j:Nat):Prop where
 len:X.length=L.length
 i_eq:i=((L.take j).filter fun q=> !p q).length
 le:i≤j
 front:X.take i=(L.take j).filter fun q=> !p q
 back: ∀k,j≤k→X[k]? =L[k]?
theorem oM {α:Type} {l:List α} {j:Nat} {q:α} (h:l[j]? =some q):l.take (j+1)=l.take j++[q]:=by rw[List.take_add_one,h];rfl
theorem DelAt.start {L:List aB} {p:aB→Bool} {k0:Nat} {q:aB} (hq:L[k0]? =some q) (hp:p q=true) (hno: ∀r∈L.take k0,p r=false):DelAt L p L k0 (k0+1):=by
 have hk:=(List.getElem?_eq_some_iff.1 hq).1
 have hf:(L.take k0).filter (fun q=> !p q)=L.take k0:=List.filter_eq_self.2 fun r hr=>by rw[hno r hr];rfl
 have ht:(L.take (k0+1)).filter (fun q=> !p q)=L.take k0:=by
  rw[oM hq,List.filter_append,hf]
  simp[hp]
 refine⟨rfl,by rw[ht,List.length_take];omega,by omega,ht.symm,fun _ _=>rfl⟩
theorem DelAt.skip {L X:List aB} {p:aB→Bool} {i j:Nat} {q:aB} (h:DelAt L p X i j) (hq:L[j]? =some q) (hp:p q=true):DelAt L p X i (j+1):=by
 have ht:(L.take (j+1)).filter (fun q=> !p q)=(L.take j).filter (fun q=> !p q):=by
  rw[oM hq,List.filter_append]
  simp[hp]
 exact⟨h.len,by rw[ht];exact h.i_eq,by have:=h.le;omega,by rw[ht];exact h.front,fun k hk=>h.back k (by omega)⟩
theorem DelAt.keep {L X:List aB} {p:aB→Bool} {i j:Nat} {q:aB} (h:DelAt L p X i j) (hij:i<j) (hq:L[j]? =some q) (hp:p q=false):DelAt L p (X.set i q) (i+1) (j+1):=by
 have hj:=(List.getElem?_eq_some_iff.1 hq).1
 have ht:(L.take (j+1)).filter (fun q=> !p q)=(L.take j).filter (fun q=> !p q)++[q]:=by
  rw[oM hq,List.filter_append]
  simp[hp]
 have hi:i<X.length:=by rw[h.len];omega
 refine⟨by rw[List.length_set];exact h.len,by rw[ht,List.length_append,←h.i_eq];rfl,by omega,?_,fun k hk=> ?_⟩
 ·rw[ht,←h.front,List.take_add_one,List.getElem?_set_self hi,List.take_set]
  simp
  rw[List.set_eq_of_length_le (by rw[List.length_take];omega)]
 ·rw[List.getElem?_set_ne (by omega)]
  exact h.back k (by omega)
set_option maxRecDepth 100000 in
set_option maxHeartbeats 1000000 in
theorem yO {w:World} {sb:Nat} {m cap f:Nat} {caps:Array Value} {L:List aB} {p:aB→Bool} {base:Nat} (hL:L.length=m) (hm:m≤1000) (hv:Own cellE w base 28 (.slice (some ⟨sb,0,none⟩) m cap) L)
  (hp: ∀w',Touch (fun k=>k=sb) w w'→ ∀q,q∈L→Calls Tryz.prog f (#[.agg #[.int .i64 q.1, .int .i64 q.2]]++caps) w' fun e w2=>e= .returned (.bool (p q))∧Ext w' w2)
  (eg: ∀args w,(callFunc f args).run Tryz.prog w= .ok (.enter f args) w)
  {k0:Nat} {q0:aB} (hq0:L[k0]? =some q0) (hyes:p q0=true) (hno: ∀r∈L.take k0,p r=false):
  Calls Tryz.prog 109 #[.slice (some ⟨sb,0,none⟩) m cap, .func (.func f) #[] caps] w fun e w'=> ∃v,e= .returned v∧Own cellE w' base 28 v (L.filter fun q=> !p q)∧Touch (fun k=>k=sb) w w':=by
 have hk0:k0<m:=by have:=(List.getElem?_eq_some_iff.1 hq0).1;omega
 have HI:=aA (qX (p:=p) hL hm hv (fun w' hx=>hp w' (Touch.of_ext hx)) eg hk0 (fun q hq=>by rw[hq0]at hq;cases hq;exact hyes) (fun j q hj hq=>hno q (List.mem_of_getElem? (i:=j) (by rw[List.getElem?_take_of_lt hj];exact hq))))
 have HD:=aA (DelAt.start hq0 hyes hno)
 have HV:=aA hv
 have HP:=aA hp
 have HL:=aA hL
 have zb:=(aG hv rfl).2
 have hbase:=(aG hv rfl).1
 have hcap:m≤cap∧cap≤9223372036854775807:=by
  rcases hv.2 with⟨h,_⟩|⟨g,c,cur,h,_,_,h1,h2,_⟩
  ·cases h
  ·cases h
   rw[hL]at h1
   exact⟨h1,h2⟩
 have hk1:((k0:Int)== -1)=false:=by simp
 clear hv hp hL hq0 hyes hno
 go_enter Tryz.func109,Tryz.ntmps109
 go_wp2_with fail
 refine(HI.out).mono ?_
 rintro e w1 ⟨rfl,hb1⟩
 have HB1:=aA hb1
 clear hb1 HI
 go_wp2_with fail
 go_loopw [5,6] (fun si sj wr=> ∃(i j:Nat) (X:List aB),si= .int .i64 (i:Int)∧sj= .int .i64 (j:Int)∧i<j∧j≤m∧DelAt L p X i j∧Own cellE wr base 28 (.slice (some ⟨sb,0,none⟩) m cap) X∧Touch (fun k=>k=sb) w wr) (fun _ sj _=>m-(intOf sj).toNat)
 case atStart=>exact⟨k0,k0+1,L,rfl,by go_num,by omega,by omega,HD.out,HV.out.ext HB1.out,Touch.of_ext HB1.out⟩
 case round=>
  obtain⟨i,j,X,rfl,rfl,hij,hjm,hd,ho,ht⟩:=hrel
  have HD2:=aA hd
  have HO:=aA ho
  have HT:=aA ht
  have hXm:X.length=m:=by rw[hd.len,HL.out]
  have zr:sb<wr.heap.size:=Nat.lt_of_lt_of_le zb ht.size
  clear hd ho ht HD HV HB1
  by_cases hlt:j<m
  ·obtain⟨q,hq⟩: ∃q,L[j]? =some q:=⟨_,List.getElem?_eq_getElem (by rw[HL.out];exact hlt)⟩
   have hXq:X[j]? =some q:=by rw[HD2.out.back j (Nat.le_refl _)];exact hq
   obtain⟨d0,d1,_⟩:=dT HO.out hXq
   have hji:(j:Int)<(m:Int):=by omega
   have hii:(i:Int)<(m:Int):=by omega
   have HQ:=aA (fun w' (hx:Ext wr w')=>HP.out w' (HT.out.trans (Touch.of_ext hx)) q (List.mem_of_getElem? hq))
   have HQQ:=aA hq
   obtain⟨qx,qy⟩:=q
   simp only at d0 d1 HQ
   cases hpq:p (qx,qy)
   ·rw[hpq]at HQ
    have KEEP:=aA (HD2.out.keep hij hq hpq)
    obtain⟨x,hx⟩: ∃x,X[i]? =some x:=⟨_,List.getElem?_eq_getElem (by omega)⟩
    have HXM:=aA hXm
    clear hq hXq hpq hXm
    go_wp2_with fail
    refine(HQ.out _ z_x).mono ?_
    rintro e w2 ⟨rfl,hb2⟩
    have hx2:Ext wr w2:=z_x
    have b0:w2.cell? ⟨wr.heap.size,0,none⟩=some (.int .i64 qx):=(hb2.cell (p:=⟨wr.heap.size,0,none⟩) (by simp)).trans (by simp[go_sem])
    have b1:w2.cell? ⟨wr.heap.size,1,none⟩=some (.int .i64 qy):=(hb2.cell (p:=⟨wr.heap.size,1,none⟩) (by simp)).trans (by simp[go_sem])
    have o2:=HO.out.ext hx2
    obtain⟨c0,c1,_⟩:=dT o2 hx
    have h':w2.ownsRow base 28 2 (.slice (some ⟨sb,0,none⟩) m cap) X.length (X.flatMap cellE.cells):=o2
    rw[HXM.out]at h'
    have f0:=h'.frozenAt (i*2)
    have f1:=h'.frozenAt (i*2+1)
    have O3:Hid (Own cellE ((w2.setCell ⟨sb,i*2,none⟩ (.int .i64 qx)).setCell ⟨sb,i*2+1,none⟩ (.int .i64 qy)) base 28 (.slice (some ⟨sb,0,none⟩) m cap) (X.set i (qx,qy))):=aA (o2.turn (i:=i) (List.getElem?_eq_some_iff.1 hx).1 (qx,qy))
    have T3:Hid (Touch (fun k=>k=sb) w ((w2.setCell ⟨sb,i*2,none⟩ (.int .i64 qx)).setCell ⟨sb,i*2+1,none⟩ (.int .i64 qy))):=aA (((HT.out.trans (Touch.of_ext hx2)).setCell (p:=⟨sb,i*2,none⟩) (.inl rfl) _).setCell (p:=⟨sb,i*2+1,none⟩) (.inl rfl) _)
    have zb2:wr.heap.size≠sb:=by omega
    clear d0 d1 hx o2 h' hb2 hx2 HO
    go_wp2_with fail
    go_roundw
    case rel=>exact⟨i+1,j+1,_,by go_num,by go_num,by omega,hlt,KEEP.out,O3.out,T3.out⟩
    case measure=>simp[intOf];omega
   ·rw[hpq]at HQ
    have SKIP:=aA (HD2.out.skip hq hpq)
    clear hq hXq hpq hXm
    go_wp2_with fail
    refine(HQ.out _ z_x).mono ?_
    rintro e w2 ⟨rfl,hb2⟩
    have hx2:Ext wr w2:=z_x
    have HX2:=aA hx2
    clear hb2 hx2
    go_wp2_with fail
    go_roundw
    case rel=>exact⟨i,j+1,X,rfl,by go_num,by omega,hlt,SKIP.out,HO.out.ext HX2.out,HT.out.trans (Touch.of_ext HX2.out)⟩
    case measure=>simp[intOf];omega
  ·obtain rfl:j=m:=by omega
   have h':wr.ownsRow base 28 2 (.slice (some ⟨sb,0,none⟩) j cap) X.length (X.flatMap cellE.cells):=HO.out
   rw[hXm]at h'
   have hflen:(X.flatMap cellE.cells).length=j*2:=by rw[cellE.flat_len,hXm];rfl
   obtain⟨zs,hzl,hcl⟩:=tR (P:=Tryz.prog) wr 37 28 0 (.agg #[.int .i64 0, .int .i64 0]) T_cells.under (fun w=>by kernel_rfl) (fun t ht=>by
     have ht2:t<2:=ht
     obtain rfl|rfl:t=0∨t=1:=by omega
     all_goals rfl) sb (i*2) (j-i) (cap-i) (by omega) (by decide) (fun t ht=>by
     have ht2:t<(j-i)*2:=ht
     rw[h'.cellAt (i*2+t) (by omega),List.getElem?_eq_getElem (by omega)];rfl) (fun t ht=>h'.frozenAt _)
   have hzl2:zs.length=(j-i)*2:=hzl
   have FIN:=aA (Own.tail_set (E:=cellE) (HO.out.cut (i:=i) (by omega)) zs (by show i*2+zs.length≤cap*2;omega))
   have FT:=aA (oD sb zs (i*2) HT.out (S:=fun k=>k=sb) rfl)
   have hX:X.take i=L.filter fun q=> !p q:=by
    rw[HD2.out.front,List.take_of_length_le (by rw[HL.out];exact Nat.le_refl _)]
   rw[hX]at FIN
   have hi0:(i:Int)≤(j:Int):=by omega
   have hi1:(i:Int)≤(cap:Int):=by omega
   clear h' hflen hzl hzl2 hX HO
   go_wp2_with fail
   go_ret
   exact⟨_,rfl,FIN.out,FT.out⟩
theorem aBi {w:World} {v:Value} {f:Nat} {caps:Array Value} {L:List aB} {p:aB→Bool} {base:Nat} (hm:L.length≤1000) (hv:Own cellE w base 28 v L)
  (hp: ∀w',Touch (fun k=>v.ownBlock=some k) w w'→ ∀q,q∈L→Calls Tryz.prog f (#[.agg #[.int .i64 q.1, .int .i64 q.2]]++caps) w' fun e w2=>e= .returned (.bool (p q))∧Ext w' w2)
  (eg: ∀args w,(callFunc f args).run Tryz.prog w= .ok (.enter f args) w):
  Calls Tryz.prog 109 #[v, .func (.func f) #[] caps] w fun e w'=> ∃v2,e= .returned v2∧Own cellE w' base 28 v2 (L.filter fun q=> !p q)∧Touch (fun k=>v.ownBlock=some k) w w':=by
 cases L with
 |nil=>
  obtain⟨a,c,rfl⟩:=hv.slice
  have HV:=aA hv
  have HI:=aA (wX a c f caps w)
  clear hp eg hm hv
  simp only[List.length_nil]at HV⊢
  go_enter Tryz.func109,Tryz.ntmps109
  go_wp2_with fail
  refine HI.out.mono ?_
  rintro e w1 ⟨rfl,rfl⟩
  go_wp2_with fail
  go_ret
  exact⟨_,rfl,HV.out,Touch.refl _ _⟩
 |cons r0 L0=>
  obtain⟨sb,cap,rfl⟩: ∃sb cap,v= .slice (some ⟨sb,0,none⟩) (r0::L0).length cap:=by
   rcases hv.2 with⟨_,h⟩|⟨g,cap,cur,h,_⟩
   ·simp at h
   ·exact⟨g,cap,h⟩
  have hset:(fun k=>(Value.slice (some ⟨sb,0,none⟩) (r0::L0).length cap).ownBlock=some k)=fun k=>k=sb:=by
   funext k
   simp only[Value.ownBlock,Option.some.injEq,eq_iff_iff]
   exact⟨fun h=>h.symm,fun h=>h.symm⟩
  rw[hset]at hp⊢
  by_cases hex: ∃q,q∈(r0::L0)∧p q=true
  ·obtain⟨k0,q0,h1,h2,h3⟩: ∃k0 q0,(r0::L0)[k0]? =some q0∧p q0=true∧ ∀r∈(r0::L0).take k0,p r=false:=by
    clear hp hset hv eg hm
    generalize r0::L0=L at *
    obtain⟨q,hq,hpq⟩:=hex
    induction L with
    |nil=>cases hq
    |cons a l ih=>
     by_cases ha:p a=true
     ·exact⟨0,a,rfl,ha,fun r hr=>by cases hr⟩
     ·have hql:q∈l:=(List.mem_cons.1 hq).resolve_left (fun e=>ha (e▸hpq))
      obtain⟨k,q0,h1,h2,h3⟩:=ih hql
      refine⟨k+1,q0,h1,h2,fun r hr=> ?_⟩
      rw[List.take_succ_cons]at hr
      rcases List.mem_cons.1 hr with rfl|hr
      ·simpa using ha
      ·exact h3 r hr
   exact yO rfl hm hv hp eg h1 h2 h3
  ·have hno: ∀q,q∈(r0::L0)→p q=false:=fun q hq=>by
    cases h:p q
    ·rfl
    ·exact absurd ⟨q,hq,h⟩ hex
   have HI:=aA (aA2 (p:=p) rfl hm hv (fun w' hx=>hp w' (Touch.of_ext hx)) eg hno)
   have hf:(r0::L0).filter (fun q=> !p q)=r0::L0:=List.filter_eq_self.2 fun q hq=>by rw[hno q hq];rfl
   rw[hf]
   have HV:=aA hv
   clear hp hno hex hf hv hset
   generalize r0::L0=L at *
   generalize L.length=m at *
   go_enter Tryz.func109,Tryz.ntmps109
   go_wp2_with fail
   refine HI.out.mono ?_
   rintro e w1 ⟨rfl,hb1⟩
   have HB1:=aA hb1
   clear hb1
   go_wp2_with fail
   go_ret
   exact⟨_,rfl,HV.out.ext HB1.out,Touch.of_ext HB1.out⟩
end Go.Proofs.YtaellcgglldjaaaGreat

namespace Go.Proofs.YtaellcgglldjaaaGreat
open Go.RowKit
def KU:MapK:=⟨105,3,38, .i64, .u64⟩
theorem fP:KU.Ok Tryz.prog:=⟨Tryz.underlying105,Tryz.underlying3,Tryz.underlying38,fun _=>by kernel_rfl⟩
theorem MapIn.get_run {P:Program} {K:MapK} {w:World} {b N:Nat} {f:Int→Option Int} (O:K.Ok P) (h:MapIn P K w b f N) {k c:Int} (hk:bH K.qk k) (hc:f k=some c):(Instr.lookup K.tm (.map (some b)) (.int K.qk k) false).run P w= .ok (.int K.qe c) w:=by
 obtain⟨D,h1,h2,h3⟩:=h
 obtain⟨c',hrun,hat,_⟩:=h1.lookup_int (Maps.int_keyed O.key) O.under O.elem (O.zero w) (Maps.keyOf_int_mk O.key hk)
 rw[(h3 k).2 c hc]at hat
 have e:c=c':=by simpa using hat
 subst e
 exact hrun
set_option maxRecDepth 100000 in
theorem yZ {w:World} {sb:Nat} {W H:Int} {a:Option Addr} {n c:Nat} {tx ty:Int} {h mg mc:Nat} {k:Int} (S:gZ w sb W H a n c tx ty h mg mc k) (x y g:Int) (hx:0≤x∧x≤1000) (hy:0≤y∧y≤1000) (htx:0≤tx∧tx≤1000) (hty:0≤ty∧ty≤1000) (hg:0≤g∧g≤1000000000000):
  Calls Tryz.prog 105 #[.pointer (some ⟨sb,0,none⟩), .agg #[.int .i64 x, .int .i64 y], .int .u64 g] w fun e w'=>e= .returned (eK ((g+dD x y tx ty,dD x y tx ty),(y,x)))∧Ext w w':=by
 have hb:=aKm hx hy htx hty
 have H1:=aA (fun w'=>aGx x y tx ty w' hx hy htx hty)
 generalize dD x y tx ty=m at *
 have q3:w.cell? ⟨sb,3,none⟩=some (.int .i64 tx):=S.at 3 rfl
 have q4:w.cell? ⟨sb,4,none⟩=some (.int .i64 ty):=S.at 4 rfl
 have hz:=Blk.lt S
 have k1:IntKind.u64.wrap m=m:=by rw[IntKind.wrap_u64];omega
 have k2:IntKind.u64.wrap (g+m)=g+m:=by rw[IntKind.wrap_u64];omega
 clear S hx hy htx hty
 unfold eK
 simp only
 go_enter Tryz.func105,Tryz.ntmps105
 go_wp2_with fail
 obtain⟨w1,hw1⟩: ∃w1,w1=(w.alloc (.cells #[.int .i64 x, .int .i64 y] 28)).alloc (.cells #[.int .u64 0, .int .u64 0, .int .i64 0, .int .i64 0] 181):=⟨_,rfl⟩
 have hx1:Ext w w1:=by rw[hw1];exact z_x
 have B:=aA (show Blk w1 w.heap.size 28 #[.int .i64 x, .int .i64 y] by rw[hw1];exact(Blk.new_ rfl).over)
 have B2:=aA (show Blk w1 (w.heap.size+1) 181 #[.int .u64 0, .int .u64 0, .int .i64 0, .int .i64 0] by rw[hw1];exact Blk.new_ (by simp))
 have q3:=(hx1.cell (p:=⟨sb,3,none⟩) hz).trans q3
 have q4:=(hx1.cell (p:=⟨sb,4,none⟩) hz).trans q4
 have hz1:=Nat.lt_of_lt_of_le hz hx1.size
 rw[←hw1]
 have b0:=B.out.at 0 rfl;have b1:=B.out.at 1 rfl;have bz:=B.out.lt
 clear hw1
 refine aF (S:=(fun W=>(∀b o,b<w1.heap.size→W.cell? ⟨b,o,none⟩=w1.cell? ⟨b,o,none⟩)∧Ext w1 W)) [(0,true),(1,true),(2,true),(3,true),(4,true),(5,false),(6,true),(7,true),(8,true),(9,true),(10,true)] (by kernel_rfl) (by kernel_rfl) (by kernel_rfl) (by decide) (fun _ _ d _ _ h=>by cases d<;>exact h) (by first|with_reducible exact aI _|exact aE z_x) (fun hHeld=> ?_)
 iterate 5 (refine SeqH.fr1 ?_;try simp only[Act.put,z_3,z_4,z_5])
 (apply SeqH.step;(·(simp only[z_0,z_1,z_2];rfl));intro K hK;go_simp;refine(H1.out _).mono ?_;rintro e w2 ⟨rfl,hb2⟩;go_wp2_with fail;refine hK.out _ _ (aE z_x) (fun hHeld=> ?_);clear hK K;try simp only[Act.put,z_3,z_4,z_5])
 iterate 5 (refine SeqH.fr1 ?_;try simp only[Act.put,z_3,z_4,z_5])
 refine SeqH.done ?_
 have hx2:=hHeld.2
 have c0:=(hx2.cell (p:=⟨w.heap.size,0,none⟩) bz).trans b0
 have c1:=(hx2.cell (p:=⟨w.heap.size,1,none⟩) bz).trans b1
 have K2:=B2.out.ext hx2
 have d0:=K2.at 0 rfl
 have d1:=K2.at 1 rfl
 have d2:=K2.at 2 rfl
 have d3:=K2.at 3 rfl
 have e0:=K2.frozen 0
 have e1:=K2.frozen 1
 have e2:=K2.frozen 2
 have e3:=K2.frozen 3
 have HX:=aA (hx1.trans hx2)
 clear hHeld hb2 hx2 hx1 b0 b1 q3 q4 K2
 go_wp2_with fail
 have hxx:=HX.out
 exact bodyPost_ret (v:= .agg #[.int .u64 (g+m), .int .u64 m, .int .i64 y, .int .i64 x]) (by simp[results,Tryz.results105,go_sem, *]) rfl ⟨rfl,(((hxx.setCell (by simp) _).setCell (by simp) _).setCell (by simp) _).setCell (by simp) _⟩
theorem aGf {w:World} {bp sb:Nat} {W H:Int} {a:Option Addr} {l:List Int} {c:Nat} {tx ty:Int} {h mg mc:Nat} {k:Int} (hbp:w.cell? ⟨bp,0,none⟩=some (.pointer (some ⟨sb,0,none⟩))) (S:gZ w sb W H a l.length c tx ty h mg mc k) (hm:bM W H=true) (hl:(l.length:Int)=W*H) (hr:Row16 w a l) (hu:cN l) (x y:Int) (h1:0≤x) (h2:x<W) (h3:0≤y) (h4:y<H):
  Calls Tryz.prog 108 #[.agg #[.int .i64 x, .int .i64 y], .pointer (some ⟨bp,0,none⟩)] w fun e w'=>e= .returned (.bool (decide (aO l W (x,y)=0)))∧Ext w w':=by
 have HC:=aA (fun(w':World) (hx:Ext w w')=>pR (Blk.ext S hx) hm hl (hr.ext hx) hu x y h1 h2 h3 h4)
 have hz:=World.block_lt_of_cell? w _ hbp
 have hz':bp<w.heap.size:=hz
 generalize aO l W (x,y)=cst at *
 have e0:(cst==0)=decide (cst=0):=rfl
 have HE:=aA e0
 clear S hm hl hr hu h1 h2 h3 h4 e0 hz
 go_enter Tryz.func108,Tryz.ntmps108
 go_wp2_with (go_at_call 59;refine(HC.out _ z_x).mono ?_;rintro e w2 ⟨rfl,hb2⟩)
 go_ret
 exact⟨by congr 1,z_x⟩
set_option maxRecDepth 100000 in
theorem aGk {w:World} {sb:Nat} {W H:Int} {a:Option Addr} {n c:Nat} {tx ty:Int} {h mg mc:Nat} {k:Int} (S:gZ w sb W H a n c tx ty h mg mc k) {came:Nat→Int} {N:Nat} {f:Int→Option Int} (M:MapIn Tryz.prog KM w mc f N) (hW:1≤W∧W≤256) {v:Nat} {l:List Nat} (C:Chain came v l) (hll:l.length≤65536) (hlv: ∀u,u∈l→(u:Int)≤65536∧f (u:Int)=some (came u)) (hneg: ∀u,u∈l→came u<0→came u= -1):
  Calls Tryz.prog 106 #[.pointer (some ⟨sb,0,none⟩), .int .i64 (v:Int)] w fun e w'=> ∃r,e= .returned r∧Ext w w'∧Own cellE w' w.heap.size 28 r (l.reverse.map (aN W)):=by
 have q0:w.cell? ⟨sb,0,none⟩=some (.int .i64 W):=S.at 0 rfl
 have q7:w.cell? ⟨sb,7,none⟩=some (.map (some mc)):=S.at 7 rfl
 have hz:=Blk.lt S
 have HM:=aA M
 have HV:=aA hlv
 have HNG:=aA hneg
 have HC0:=aA C
 have HLV0:Hid (l≠[]):=aA (by cases C<;>simp)
 have Q:=aA (And.intro q0 q7)
 clear S M hlv hneg C q0 q7
 go_enter Tryz.func106,Tryz.ntmps106
 go_wp2_with fail
 go_loopg [1,5] l.length (fun gk si so wr=> ∃(pre rest:List Nat),l=pre++rest∧gk=rest.length∧Own cellE wr w.heap.size 28 so (pre.map (aN W))∧Ext w wr∧((rest=[]∧si= .int .i64 (-1))∨ ∃(u:Nat) (r:List Nat),rest=u::r∧si= .int .i64 (u:Int)∧Chain came u rest))
 case atStart=>exact⟨[],l,rfl,rfl,Own.nil _ _ _ _,Ext.refl _, .inr (by cases HC0.out with|stop h=>exact⟨v,_,rfl,rfl, .stop h⟩|go h1 h2=>exact⟨v,_,rfl,rfl, .go h1 h2⟩)⟩
 case round=>
  obtain⟨pre,rest,hlr,rfl,ho,hx,hc⟩:=hrel
  have HLR:=aA hlr
  have HO:=aA ho
  have HX:=aA hx
  have hprl:pre.length≤65536:=by rw[hlr]at hll;simp at hll;omega
  have hzr:=hx.size
  clear hlr ho hx HC0
  rcases hc with⟨rfl,rfl⟩|⟨u,r,rfl,rfl,hch⟩
  ·have hpl:l=pre:=by rw[HLR.out,List.append_nil]
   subst hpl
   have hl0:=HLV0.out
   obtain⟨g,cg,hov⟩: ∃g cg,u5= .slice (some ⟨g,0,none⟩) l.length cg:=by
    rcases HO.out.2 with⟨_,h⟩|⟨g,cap,cur,h,_⟩
    ·rw[List.length_map]at h
     exact absurd (List.eq_nil_of_length_eq_zero h) hl0
    ·exact⟨g,cap,by rw[h,List.length_map]⟩
   subst hov
   have hgl:=aG HO.out rfl
   have HR:=aA (fun(w':World) (hx:Ext wr w')=>qH (w:=w') (l:=l.map (aN W)) (n:=l.length) (by rw[List.length_map]) (List.length_pos_iff.2 hl0) (by omega) (HO.out.ext hx))
   clear hl0
   go_wp2_with fail
   refine(HR.out _ (Ext.refl _)).mono ?_
   rintro e w5 ⟨rfl,ho5,t5⟩
   have O5:=aA ho5
   have T5:=aA t5
   clear ho5 t5
   go_wp2_with fail
   go_ret
   refine⟨_,rfl,((Touch.of_ext (S:=fun _=>False) HX.out).after T5.out (fun k hk e=>by omega)).ext,?_⟩
   rw[List.map_reverse]
   exact O5.out
  ·have hu:=HV.out u (by rw[HLR.out];simp)
   have hq0:=(HX.out.cell (p:=⟨sb,0,none⟩) hz).trans Q.out.1
   have hq7:=(HX.out.cell (p:=⟨sb,7,none⟩) hz).trans Q.out.2
   have hzs:sb<wr.heap.size:=by omega
   have k1:(u:Int).tmod W=vx W u:=uK (by omega) (by omega) (by omega)
   have k2:IntKind.i64.wrap ((u:Int).tdiv W)=vy W u:=nD (by omega) (by omega) (by omega)
   have k2':IntKind.i64.wrap ((u:Int)/W)=vy W u:=by rw[←k2,Int.tdiv_eq_ediv_of_nonneg (by omega)]
   have hW0: ¬W=0:=by omega
   have hplen:(pre.map (aN W)).length=pre.length:=List.length_map _
   have HPL:=aA hplen
   have HCH:=aA hch
   have hbz:w.heap.size≤wr.heap.size:=hzr
   obtain⟨ou,oc,hov⟩:=HO.out.slice
   subst hov
   rw[hplen]at HO⊢
   have HFU:=aA hu.2
   have HFT:Hid (bH .i64 (u:Int)):=aA (cY (by omega))
   clear hch hplen hu
   go_wp2_with fail
   go_region_law (refine kY cellE T_cells rfl _ _ rfl w.heap.size _ _ (pre.map (aN W)) rfl HO.out (aN W u) _ _ rfl _ rfl rfl (by rw[HPL.out];omega) (by rw[HPL.out];omega) (by omega) ?_;intro g9 c9 w9 o9 t9 l9;have O9:=aA o9;have T9:=aA t9;have X9:=aA (((Touch.of_ext (S:=fun _=>False) HX.out).after T9.out (fun k hk h=>by have:=(aG HO.out (k:=k) h).1;omega)).ext);have r7:w9.cell? ⟨sb,7,none⟩=some (.map (some mc)):=(X9.out.cell (p:=⟨sb,7,none⟩) hz).trans Q.out.2;have M9:=(HM.out.ext HX.out).touch T9.out (fun h=>by have:=(aG HO.out h).1;have:=HM.out.lt;omega);have rl:=M9.get_run lA HFT.out HFU.out;simp only[KM]at rl;clear o9 t9 l9 M9)
   all_goals
    have REL:Hid (∃(pre2 rest2:List Nat),l=pre2++rest2∧r.length=rest2.length∧Own cellE w9 w.heap.size 28 (.slice (some ⟨g9,0,none⟩) (pre.length+1) c9) (pre2.map (aN W))∧Ext w w9∧((rest2=[]∧Value.int .i64 (came u)= .int .i64 (-1))∨ ∃(u2:Nat) (r2:List Nat),rest2=u2::r2∧Value.int .i64 (came u)= .int .i64 (u2:Int)∧Chain came u2 rest2)):=aA (by
     refine⟨pre++[u],r,by rw[HLR.out];simp,rfl,?_,X9.out,?_⟩
     ·have h:=O9.out
      rw[HPL.out]at h
      rw[List.map_append]
      exact h
     ·cases HCH.out with
      |stop h=>exact .inl ⟨rfl,by rw[HNG.out u (by rw[HLR.out];simp) h]⟩
      |go h1 h2=>
       obtain⟨r2,hr2⟩: ∃r2,r=_::r2:=by cases h2<;>exact⟨_,rfl⟩
       exact .inr ⟨_,r2,hr2,by rw[h1],h2⟩)
    try go_wp2_with fail
    go_roundg r.length
    case measure=>simp
    case rel=>exact REL.out
end Go.Proofs.YtaellcgglldjaaaGreat

