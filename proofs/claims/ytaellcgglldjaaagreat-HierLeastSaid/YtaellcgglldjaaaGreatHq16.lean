/- Part of a proof: RedM InF. -/
import Derived.Test.YtaellcgglldjaaaGreatHq10
import Derived.Test.YtaellcgglldjaaaGreatHq15
import Derived.WideKeyPair
import Derived.DeepKeys4
set_option linter.all false
set_option linter.unusedVariables false
set_option linter.unusedSimpArgs false
namespace Go.Proofs.YtaellcgglldjaaaGreat
open Go.RowKit Go.ChangeMaps Go.MapKept Go.WideElems
open Go.Maps (Keyed)
theorem aM0:Go.WideMaps.ArrKey Tryz.prog 159 3 2:=⟨Tryz.underlying159,by kernel_rfl,by kernel_rfl,by kernel_rfl⟩
theorem aHz:laidOutB Tryz.prog=true:=by kernel_rfl
theorem keyed2:Keyed Tryz.prog 159:=Keyed.of_law (deep_law_laid aHz (m:=2) (by omega) (of_decide_eq_true (by kernel_rfl)) (by kernel_rfl) (by rw[Tryz.underlying159]))
def fU (a b:Int):Lit:= .string (keyBytes [.int .i64 a, .int .i64 b])
def Rg (a b:Int):Prop:=(0≤a∧a<65536)∧(0≤b∧b<65536)
theorem aA1 {a:Int} (h:0≤a∧a<65536):(Lit.int .i64 a).wf=true:=by
 have hmin:IntKind.i64.min= -9223372036854775808:=rfl
 have hmax:IntKind.i64.max=9223372036854775807:=rfl
 simp only[Lit.wf,Bool.and_eq_true,decide_eq_true_eq]
 omega
theorem aH0:0<(Tryz.prog).types.size:=of_decide_eq_true (by kernel_rfl)
theorem aDp: ∃m,(Tryz.prog).types.size=m+1:=by
 have:=aH0
 generalize (Tryz.prog).types.size=n at *
 exact⟨n-1,by omega⟩
theorem aCx {a b:Int} (h:Rg a b):keyOf Tryz.prog 159 (.agg #[.int .i64 a, .int .i64 b])=some (fU a b):=
 Go.WideMaps.keyOf_pair aM0 Tryz.underlying3 aDp (aA1 h.1) (aA1 h.2)
theorem aFa {a b c d:Int} (h:Rg a b) (h':Rg c d) (e:fU a b=fU c d):a=c∧b=d:=by
 have h1:=aCx h
 rw[e]at h1
 have:=keyed2.inj h1 (aCx h')
 simpa using this
theorem uZ (a b:Int):WideAt.IsKeyLit (fU a b):=trivial
def wI (v:Value):Option (DataW Value×List MemPlace):=some (.held v,[])
def MapV (w:World) (b:Nat) (f:Int→Int→Option Value):Prop:=
 ∃(D:DataW Value) (ks:List (Int×Int)),w.ownsMap Tryz.prog 159 wI b ks.length D∧Maps.size D=ks.length∧ks.Nodup∧(∀p∈ks,Rg p.1 p.2)∧(∀a b,(f a b).isSome=true↔(a,b)∈ks)∧
  ∀a b,Rg a b→Maps.has D (fU a b)=(f a b).isSome∧ ∀v z,f a b=some v→D.atKey (fU a b) z= .held v
theorem aJc {H:Type} {P:Program} {k:TypeId} {R:Value→Option (DataW H×List MemPlace)} {w:World} {b n:Nat} {D:DataW H} (h:w.ownsMap P k R b n D):w.ownsMap P k R b (Maps.size D) D:=by
 obtain⟨es,clock,hb,F,_,rfl⟩:=h
 exact⟨es,clock,hb,F,by simp[Maps.size,length_sorted],rfl⟩
theorem aIa {ks:List (Int×Int)} (h1:ks.Nodup) (h2: ∀p∈ks,Rg p.1 p.2):ks.length≤4294967296:=by
 have h3:(ks.map fun p=>p.1.toNat*65536+p.2.toNat).Nodup:=by
  unfold List.Nodup at h1⊢
  rw[List.pairwise_map]
  refine List.Pairwise.imp_of_mem (fun {a b} ha hb hne e=>hne ?_) h1
  have ra:=h2 a ha
  have rb:=h2 b hb
  unfold Rg at ra rb
  exact Prod.ext (by omega) (by omega)
 have:=iY (n:=4294967296) h3 (fun v hv=>by
  obtain⟨p,hp,rfl⟩:=List.mem_map.1 hv
  have r:=h2 p hp
  unfold Rg at r
  omega)
 simpa using this
def rQ (f:Int→Int→Option Value) (x y:Int) (v:Value) (a b:Int):Option Value:=if a=x∧b=y then some v else f a b
section
variable {w w':World} {b:Nat} {f:Int→Int→Option Value}
theorem MapV.made (w:World):MapV (w.alloc (.map #[] 0)) w.heap.size (fun _ _=>none):=
 ⟨.map [],[],World.ownsMap_made _ _ _ _,rfl,List.nodup_nil,(fun _ h=>by cases h),(fun a b=>by simp),fun a b _=>⟨rfl,fun v z h=>by cases h⟩⟩
theorem MapV.lt (h:MapV w b f):b<w.heap.size:=by obtain⟨D,ks,h,_⟩:=h;exact h.lt
theorem MapV.touch {S:Nat→Prop} (h:MapV w b f) (t:Touch S w w') (hs: ¬S b):MapV w' b f:=by
 obtain⟨D,ks,h1,h2⟩:=h
 exact⟨D,ks,kN h1 t hs,h2⟩
theorem MapV.ext (h:MapV w b f) (t:Ext w w'):MapV w' b f:=h.touch (Touch.of_ext (S:=fun _=>False) t) (fun x=>x)
theorem MapV.rg (h:MapV w b f) {x y:Int} {v:Value} (hf:f x y=some v):Rg x y:=by
 obtain⟨D,ks,h1,h2,h3,h4,h5,h6⟩:=h
 exact h4 (x,y) ((h5 x y).1 (by rw[hf];rfl))
theorem MapV.not_blk (h:MapV w b f) {t:TypeId} {g:Nat} {cs:Array Value} (B:Blk w g t cs):g≠b:=by
 obtain⟨D,ks,h1,_⟩:=h
 exact B.ne_map h1
theorem MapV.not_own (h:MapV w b f) {α:Type} {E:Enc α} {base:Nat} {e:TypeId} {v:Value} {l:List α} (o:Own E w base e v l):v.ownBlock≠some b:=by
 obtain⟨D,ks,h1,_⟩:=h
 exact sP o h1
theorem aKr {w w':World} {b:Nat} (h:w.mapTurned w' b):Touch (fun k=>k=b) w w':=(Touch.refl _ w).grown h.grown (fun k hk=> .inl (by cases hk;rfl))
theorem aDu (w:World):(zeroValue 76).run Tryz.prog w= .ok (.slice none 0 0) w:=by kernel_rfl
theorem MapV.put (h:MapV w b f) {x y:Int} (hx:Rg x y) (v:Value):
  ∃w',(Instr.mapUpdate 89 (.map (some b)) (.agg #[.int .i64 x, .int .i64 y]) v).run Tryz.prog w= .ok () w'∧MapV w' b (rQ f x y v)∧Touch (fun k=>k=b) w w':=by
 obtain⟨D,ks,h1,h2,h3,h4,h5,h6⟩:=h
 have hl:=aIa h3 h4
 obtain⟨w',hrun,o,t⟩:=h1.store keyed2 Tryz.underlying89 (by unfold maxLen;omega) (aCx hx) (val:=v) (d:= .held v) (ps:=[]) rfl
 have tidy:=h1.tidy keyed2
 have e:Maps.size (D.put (fU x y) (.held v))=if(f x y).isSome then ks.length else ks.length+1:=by
  rw[Maps.size_put tidy,(h6 x y hx).1,h2]
 have hat: ∀a b,Rg a b→Maps.has (D.put (fU x y) (.held v)) (fU a b)=(rQ f x y v a b).isSome∧ ∀u z,rQ f x y v a b=some u→(D.put (fU x y) (.held v)).atKey (fU a b) z= .held u:=by
  intro a b hab
  unfold rQ
  by_cases hk:a=x∧b=y
  ·obtain⟨rfl,rfl⟩:=hk
   rw[Maps.has_put_same tidy.isMap (uZ _ _)]
   simp only[and_self,if_true]
   exact⟨rfl,fun u z hu=>by cases hu;exact Maps.atKey_put_same tidy.isMap (uZ _ _) _ _⟩
  ·have hne:fU a b≠fU x y:=fun e=>hk (aFa hab hx e)
   rw[Maps.has_put_other hne]
   simp only[if_neg hk]
   exact⟨(h6 a b hab).1,fun u z hu=>by rw[Maps.atKey_put_other hne];exact(h6 a b hab).2 u z hu⟩
 refine⟨w',hrun,?_,aKr t⟩
 by_cases hs:(f x y).isSome=true
 ·rw[hs]at e
  refine⟨_,ks,?_,by simpa using e,h3,h4,fun a b=> ?_,hat⟩
  ·have:=aJc o;rw[e]at this;simpa using this
  ·unfold rQ
   by_cases hk:a=x∧b=y
   ·obtain⟨rfl,rfl⟩:=hk
    simp only[and_self,if_true]
    exact⟨fun _=>(h5 a b).1 hs,fun _=>rfl⟩
   ·rw[if_neg hk];exact h5 a b
 ·have hs':(f x y).isSome=false:=by simpa using hs
  rw[hs']at e
  refine⟨_,(x,y)::ks,?_,by simpa using e,List.nodup_cons.2 ⟨fun hm=>hs ((h5 x y).2 hm),h3⟩,fun p hp=> ?_,fun a b=> ?_,hat⟩
  ·have:=aJc o;rw[e]at this;simpa using this
  ·rcases List.mem_cons.1 hp with rfl|hp
   ·exact hx
   ·exact h4 p hp
  ·unfold rQ
   by_cases hk:a=x∧b=y
   ·obtain⟨rfl,rfl⟩:=hk
    simp
   ·rw[if_neg hk,h5 a b,List.mem_cons]
    exact⟨.inr,fun h=>h.elim (fun e=>absurd (by simpa using e) hk) id⟩
theorem MapV.get (h:MapV w b f) {x y:Int} {v:Value} (hf:f x y=some v):
  (Instr.lookup 89 (.map (some b)) (.agg #[.int .i64 x, .int .i64 y]) false).run Tryz.prog w= .ok v w:=by
 have hx:=h.rg hf
 obtain⟨D,ks,h1,h2,h3,h4,h5,h6⟩:=h
 obtain⟨u,ps,hrun,hu⟩:=h1.lookup keyed2 Tryz.underlying89 (aDu w) (zd:= .held (.slice none 0 0)) (zp:=[]) rfl (aCx hx)
 rw[(h6 x y hx).2 v _ hf]at hu
 have:u=v:=by unfold wI at hu;simp at hu;exact hu.1
 rw[hrun,this]
end
def InR (R:Nat→Prop) (v:Value):Prop:= ∀k,v.ownBlock=some k→R k
theorem InR.mono {R R':Nat→Prop} {v:Value} (h:InR R v) (hr: ∀k,R k→R' k):InR R' v:=fun k hk=>hr k (h k hk)
abbrev Sl:=Option Addr×Nat×Nat
def slV (s:Sl):Value:= .slice s.1 s.2.1 s.2.2
def tabE:Enc (Sl×Sl):=⟨2,fun s=>[slV s.1,slV s.2],fun _=>rfl,fun _ u hu=>by simp at hu;rcases hu with rfl|rfl<;>rfl⟩
theorem T_tabs:cX Tryz.prog 90 166 (.agg #[.slice none 0 0, .slice none 0 0]) 2 48:=⟨Tryz.underlying90,by kernel_rfl,rfl,by decide⟩
def RowsR (R:Nat→Prop) (w:World) (v:Value) (ll:List (List Int)):Prop:=
 ∃ss:List Sl,(Own iQ w 0 78 v ss∧InR R v)∧ss.length=ll.length∧ ∀(i:Nat) (s:Sl) (r:List Int),ss[i]? =some s→ll[i]? =some r→Own u64E w 0 38 (slV s) r∧InR R (slV s)
def TabR (R:Nat→Prop) (w:World) (s:Sl×Sl) (t:Tab):Prop:=(Own cellE w 0 28 (slV s.1) t.1∧InR R (slV s.1))∧RowsR R w (slV s.2) t.2
section
variable {S R R':Nat→Prop} {w w':World}
theorem RowsR.touch {v:Value} {ll:List (List Int)} (h:RowsR R w v ll) (t:Touch S w w') (hs: ∀k,R k→ ¬S k):RowsR R w' v ll:=by
 obtain⟨ss,⟨h1,h1'⟩,h2,h3⟩:=h
 exact⟨ss,⟨h1.touch t (fun k hk=>hs k (h1' k hk)),h1'⟩,h2,fun i s r a b=>⟨(h3 i s r a b).1.touch t (fun k hk=>hs k ((h3 i s r a b).2 k hk)),(h3 i s r a b).2⟩⟩
theorem RowsR.mono {v:Value} {ll:List (List Int)} (h:RowsR R w v ll) (hr: ∀k,R k→R' k):RowsR R' w v ll:=by
 obtain⟨ss,⟨h1,h1'⟩,h2,h3⟩:=h
 exact⟨ss,⟨h1,h1'.mono hr⟩,h2,fun i s r a b=>⟨(h3 i s r a b).1,(h3 i s r a b).2.mono hr⟩⟩
theorem RowsR.of_at {base:Nat} {v:Value} {ll:List (List Int)} (h:RowsAt w base v ll) (hr: ∀k,base≤k→k<w.heap.size→R k):RowsR R w v ll:=by
 obtain⟨ss,h1,h2,h3⟩:=h
 exact⟨ss,⟨h1.lower (Nat.zero_le _),fun k hk=>hr k (aK h1 hk).1 (aK h1 hk).2⟩,h2,fun i s r a b=>⟨(h3 i s r a b).lower (Nat.zero_le _),fun k hk=>hr k (aK (h3 i s r a b) hk).1 (aK (h3 i s r a b) hk).2⟩⟩
theorem RowsR.at0 {v:Value} {ll:List (List Int)} (h:RowsR R w v ll):RowsAt w 0 v ll:=by
 obtain⟨ss,h1,h2,h3⟩:=h
 exact⟨ss,h1.1,h2,fun i s r a b=>(h3 i s r a b).1⟩
theorem TabR.touch {s:Sl×Sl} {t:Tab} (h:TabR R w s t) (tt:Touch S w w') (hs: ∀k,R k→ ¬S k):TabR R w' s t:=
 ⟨⟨h.1.1.touch tt (fun k hk=>hs k (h.1.2 k hk)),h.1.2⟩,h.2.touch tt hs⟩
theorem TabR.mono {s:Sl×Sl} {t:Tab} (h:TabR R w s t) (hr: ∀k,R k→R' k):TabR R' w s t:=⟨⟨h.1.1,h.1.2.mono hr⟩,h.2.mono hr⟩
end
def GatesR (R:Nat→Prop) (w:World) (m:Nat) (G:Int→Int→Option (List (aB×aB))):Prop:=
 ∃f,MapV w m f∧ ∀a b,(f a b=none∧G a b=none)∨ ∃v L,f a b=some v∧G a b=some L∧Own bV w 0 160 v L∧InR R v
def TabsR (R:Nat→Prop) (w:World) (ts:List (Sl×Sl)) (T:List Tab):Prop:=ts.length=T.length∧ ∀(i:Nat) (s:Sl×Sl) (t:Tab),ts[i]? =some s→T[i]? =some t→TabR R w s t
structure Spot where
 b:Nat
 m:Nat
 tb:Nat
 ca:Option Addr
 cc:Nat
 tc:Nat
def Spot.F (p:Spot) (k:Nat):Prop:=k=p.b∨k=p.m∨k=p.tb
def cB (p:Spot) (W H s:Int) (n N:Nat):Array Value:= #[.int .i64 W, .int .i64 H, .slice p.ca n p.cc, .int .i64 W, .int .i64 H, .int .i64 s, .map (some p.m), .slice (some ⟨p.tb,0,none⟩) N p.tc]
structure Stand (w:World) (p:Spot) (R:Nat→Prop) (W H s:Int) (l:List Int) (G:Int→Int→Option (List (aB×aB))) (T:List Tab):Prop where
 good:Good W H s l
 blk:Blk w p.b 93 (cB p W H s l.length T.length)
 cost:Own u16G w 0 84 (.slice p.ca l.length p.cc) l
 costR:InR R (.slice p.ca l.length p.cc)
 gates:GatesR R w p.m G
 tabs: ∃ts,Own tabE w 0 166 (.slice (some ⟨p.tb,0,none⟩) T.length p.tc) ts∧TabsR R w ts T
 num:(T.length:Int)=cnt W H s
 lt: ∀k,R k→k<w.heap.size
 apart: ∀k,R k→ ¬p.F k
section
variable {S R R':Nat→Prop} {w w':World} {p:Spot} {W H s:Int} {l:List Int} {G:Int→Int→Option (List (aB×aB))} {T:List Tab} {m:Nat}
theorem GatesR.touch (h:GatesR R w m G) (t:Touch S w w') (hm: ¬S m) (hs: ∀k,R k→ ¬S k):GatesR R w' m G:=by
 obtain⟨f,h1,h2⟩:=h
 refine⟨f,h1.touch t hm,fun a b=>(h2 a b).imp id ?_⟩
 rintro⟨v,L,e1,e2,o,i⟩
 exact⟨v,L,e1,e2,o.touch t (fun k hk=>hs k (i k hk)),i⟩
theorem GatesR.mono (h:GatesR R w m G) (hr: ∀k,R k→R' k):GatesR R' w m G:=by
 obtain⟨f,h1,h2⟩:=h
 refine⟨f,h1,fun a b=>(h2 a b).imp id ?_⟩
 rintro⟨v,L,e1,e2,o,i⟩
 exact⟨v,L,e1,e2,o,i.mono hr⟩
theorem TabsR.touch {ts:List (Sl×Sl)} (h:TabsR R w ts T) (t:Touch S w w') (hs: ∀k,R k→ ¬S k):TabsR R w' ts T:=⟨h.1,fun i a b x y=>(h.2 i a b x y).touch t hs⟩
theorem TabsR.mono {ts:List (Sl×Sl)} (h:TabsR R w ts T) (hr: ∀k,R k→R' k):TabsR R' w ts T:=⟨h.1,fun i a b x y=>(h.2 i a b x y).mono hr⟩
theorem Stand.touch (h:Stand w p R W H s l G T) (t:Touch S w w') (hf: ∀k,p.F k→ ¬S k) (hs: ∀k,R k→ ¬S k):Stand w' p R W H s l G T where
 good:=h.good
 blk:=h.blk.touch t (hf _ (.inl rfl))
 cost:=h.cost.touch t (fun k hk=>hs k (h.costR k hk))
 costR:=h.costR
 gates:=h.gates.touch t (hf _ (.inr (.inl rfl))) hs
 tabs:=by
  obtain⟨ts,h1,h2⟩:=h.tabs
  exact⟨ts,h1.touch t (fun k hk=>by cases hk;exact hf _ (.inr (.inr rfl))),h2.touch t hs⟩
 num:=h.num
 lt k hk:=Nat.lt_of_lt_of_le (h.lt k hk) t.size
 apart:=h.apart
theorem Stand.ext (h:Stand w p R W H s l G T) (t:Ext w w'):Stand w' p R W H s l G T:=h.touch (Touch.of_ext (S:=fun _=>False) t) (fun _ _ x=>x) (fun _ _ x=>x)
theorem Stand.foot (h:Stand w p R W H s l G T) {k:Nat} (hk:p.F k):k<w.heap.size:=by
 rcases hk with rfl|rfl|rfl
 ·exact h.blk.lt
 ·obtain⟨f,h1,_⟩:=h.gates;exact h1.lt
 ·obtain⟨ts,h1,_⟩:=h.tabs;exact(aK h1 rfl).2
theorem Stand.row (h:Stand w p R W H s l G T):Row16 w p.ca l:=sW h.cost
theorem Stand.bm (h:Stand w p R W H s l G T):p.b≠p.m:=by obtain⟨f,h1,_⟩:=h.gates;exact h1.not_blk h.blk
theorem Stand.bt (h:Stand w p R W H s l G T):p.b≠p.tb:=by
 obtain⟨ts,h1,_⟩:=h.tabs
 exact fun e=>h.blk.ne_own h1 (by decide) (by rw[e];rfl)
theorem Stand.mt (h:Stand w p R W H s l G T):p.m≠p.tb:=by
 obtain⟨ts,h1,_⟩:=h.tabs
 obtain⟨f,h2,_⟩:=h.gates
 exact fun e=>h2.not_own h1 (by rw[e];rfl)
theorem Stand.widen (h:Stand w p R W H s l G T) (hr: ∀k,R k→R' k) (hl: ∀k,R' k→k<w.heap.size) (ha: ∀k,R' k→ ¬p.F k):Stand w p R' W H s l G T where
 good:=h.good
 blk:=h.blk
 cost:=h.cost
 costR:=h.costR.mono hr
 gates:=h.gates.mono hr
 tabs:=by obtain⟨ts,h1,h2⟩:=h.tabs;exact⟨ts,h1,h2.mono hr⟩
 num:=h.num
 lt:=hl
 apart:=ha
end
def wF (W H s:Int) (l:List Int) (G:Int→Int→Option (List (aB×aB))):Prop:= ∀a b,0≤a→b<cnt W H s→a<b→b∈aO W H s a→G a b=some (btw l W H s a b)
structure aLy (W H s:Int) (l:List Int) (G:Int→Int→Option (List (aB×aB))) (T:List Tab):Prop where
 gates:wF W H s l G
 tabs: ∀i:Nat,i<T.length→T[i]? =some (eZ W H s l (i:Int))
def WorldAt (w:World) (p:Spot) (R:Nat→Prop) (W H s:Int) (l:List Int):Prop:= ∃G T,Stand w p R W H s l G T∧aLy W H s l G T
theorem WorldAt.touch {S R:Nat→Prop} {w w':World} {p:Spot} {W H s:Int} {l:List Int} (h:WorldAt w p R W H s l) (t:Touch S w w') (hf: ∀k,p.F k→ ¬S k) (hs: ∀k,R k→ ¬S k):WorldAt w' p R W H s l:=by
 obtain⟨G,T,h1,h2⟩:=h
 exact⟨G,T,h1.touch t hf hs,h2⟩
theorem WorldAt.ext {R:Nat→Prop} {w w':World} {p:Spot} {W H s:Int} {l:List Int} (h:WorldAt w p R W H s l) (t:Ext w w'):WorldAt w' p R W H s l:=by
 obtain⟨G,T,h1,h2⟩:=h
 exact⟨G,T,h1.ext t,h2⟩
end Go.Proofs.YtaellcgglldjaaaGreat

namespace Go.Proofs.YtaellcgglldjaaaGreat
open Go.RowKit
def toE (W H:Int) (n:Nat) (PW PH s id:Int) (cs:List aB) (p:aB):Int:=if dC W H n PW PH s id cs=0 then eS W H n (aU W s id) (aP W s id) (bB W s id) (bA W H s id) p.1 p.2 else dC W H n PW PH s id cs
theorem aLe {W H:Int} {n:Nat} {PW PH s id:Int} {cs:List aB} {p:aB} (h:toE W H n PW PH s id cs p=0):dC W H n PW PH s id cs=0∧eS W H n (aU W s id) (aP W s id) (bB W s id) (bA W H s id) p.1 p.2=0:=by
 unfold toE at h
 split at h
 ·next h1=>exact⟨h1,h⟩
 ·next h1=>exact absurd h h1
set_option maxRecDepth 100000 in
theorem aL6 {w:World} {W H:Int} {a:Option Addr} {l:List Int} (c:Nat) {PW PH s id:Int} {ca:Option Addr} {cs:List aB} (cc:Nat) (ra:Option Addr) (rn rc:Nat) {p:aB} (hr:Row16 w a l) (hc:RowC w ca cs) (hl:cs.length≤1000000) (hi: ∀p∈cs,InI p.1∧InI p.2) (he:toE W H l.length PW PH s id cs p=0) (L:cT W H s id l):
  Calls Tryz.prog 154 #[.agg #[.int .i64 W, .int .i64 H, .slice a l.length c], .agg #[.int .i64 PW, .int .i64 PH, .int .i64 s], .int .i64 id, .agg #[.slice ca cs.length cc, .slice ra rn rc], .agg #[.int .i64 p.1, .int .i64 p.2]] w fun e w'=> ∃sv:Option Addr×Nat×Nat,e= .returned (.tuple #[.slice sv.1 sv.2.1 sv.2.2, .int .i64 0])∧Ext w w'∧Own u64E w' w.heap.size 38 (.slice sv.1 sv.2.1 sv.2.2) (jC L cs p):=by
 obtain⟨h0,h1⟩:=aLe he
 obtain⟨e1,e2,e3,e4,e5,e6⟩:=innerE_ok.1 h0
 have hok:=xB e4 e5 e6
 have HL:=aA (fun(w':World) (hx:Ext w w')=>uY (w:=w') W H a l.length c PW PH s id ca cs cc (hc.ext hx) hl hi)
 rw[h0]at HL
 have HF:=aA (fun(w':World) (hx:Ext w w')=>aBv (w:=w') L c p (lookE_ok.1 h1).2.2.2 cc hok hl (hr.ext hx) (hc.ext hx))
 obtain⟨x,y⟩:=p
 obtain⟨n,hn⟩: ∃z,l.length=z:=⟨_,rfl⟩
 obtain⟨m,hm⟩: ∃z,cs.length=z:=⟨_,rfl⟩
 rw[hn,hm]at HL HF⊢
 clear hc hi he hr hok hn hm e1 e2 e3 e4 e5 e6 h0 h1 hl
 simp only at HF⊢
 go_enter Tryz.func154,Tryz.ntmps154
 go_wp2_with fail
 refine(HL.out _ z_x).mono ?_
 rintro e w1 ⟨⟨v,rfl,hv⟩,hb1⟩
 obtain⟨hc1,hf1⟩:=hb1.cells;have hz1:=hb1.size;(repeat(first|rw[World.size_alloc]at hz1|rw[World.size_drew]at hz1));have z1_0:w.heap.size<w1.heap.size:=(by omega);have z1_1:w.heap.size+1<w1.heap.size:=(by omega);have z1_2:w.heap.size+2<w1.heap.size:=(by omega);have z1_3:w.heap.size+3<w1.heap.size:=(by omega)
 rcases hv with⟨h0,_⟩|⟨_,rfl⟩
 ·exact absurd rfl h0
 ·go_wp2_with fail
  refine(HF.out _ z_x).mono ?_
  rintro e w2 ⟨sv,rfl,hb2,ho2⟩
  have hx2:Ext w w2:=z_x
  have hz1:w.heap.size≤w1.heap.size:=by omega
  have O2:=aA (ho2.lower (base':=w.heap.size) (by simp;omega))
  clear ho2 hb2
  go_wp2_with fail
  go_ret2
  exact⟨sv,rfl,hx2,O2.out⟩
def RowU (w:World) (a:Option Addr) (l:List Int):Prop:=0<l.length→ ∃b off,a=some ⟨b,off,none⟩∧b<w.heap.size∧ ∀k (h:k<l.length),w.cell? ⟨b,off+k,none⟩=some (.int .u64 l[k])
theorem RowU.ext {w w':World} {a:Option Addr} {l:List Int} (h:RowU w a l) (e:Ext w w'):RowU w' a l:=fun h0=>by
 obtain⟨b,off,ha,hb,hc⟩:=h h0
 exact⟨b,off,ha,Nat.lt_of_lt_of_le hb e.size,fun k hk=>(e.cell (p:=⟨b,off+k,none⟩) hb).trans (hc k hk)⟩
theorem Reads.rowU {w:World} {a:Option Addr} {n c:Nat} {l:List Int} (h:Reads u64E w (.slice a n c) l):n=l.length∧RowU w a l:=by
 rcases h with⟨hv,rfl⟩|⟨b,off,cap,hv,hb,hc⟩
 ·injection hv with h1 h2 _
  exact⟨h2,fun h=>by simp at h⟩
 ·injection hv with h1 h2 _
  refine⟨h2,fun _=>⟨b,off,h1,hb,fun k hk=> ?_⟩⟩
  have:=hc k l[k] (List.getElem?_eq_getElem hk) 0 (.int .u64 l[k]) rfl
  simpa [u64E] using this
set_option maxRecDepth 100000 in
theorem vT (a b:Option Addr) (l m:List aB) (c d:Nat) (w:World) (hl:l.length≤1000000) (ha:RowC w a l) (hb:RowC w b m):
  Calls Tryz.prog 80 #[.slice a l.length c, .slice b m.length d] w fun e w'=>e= .returned (.bool (decide (l=m)))∧Ext w w':=by
 by_cases hlen:l.length=m.length
 ·have HA:=aA ha
  have HB:=aA hb
  have HLM:=aA hlen
  obtain⟨n,hn⟩: ∃n,l.length=n:=⟨_,rfl⟩
  have HN:=aA hn
  rw[←hlen,hn]
  rw[hn]at hl
  clear ha hb hlen hn
  go_enter Tryz.func80,Tryz.ntmps80
  go_wp2_with fail
  go_loopw [13] (fun i wr=> ∃k:Nat,k≤n∧i= .int .i64 k∧l.take k=m.take k∧Ext w wr) (fun i _=>n-(intOf i).toNat)
  case atStart=>exact⟨0,Nat.zero_le _,rfl,rfl,z_x⟩
  case round=>
   obtain⟨k,hk,rfl,htk,hx⟩:=hrel
   have HT:=aA htk
   have HX:=aA hx
   clear htk hx
   by_cases hlt:k<n
   ·have h1:k<l.length:=by rw[HN.out];exact hlt
    have h2:k<m.length:=by rw[←HLM.out];exact h1
    obtain⟨ba,oa,rfl,za,ca⟩:=HA.out (by omega)
    obtain⟨bb,ob,rfl,zb,cb⟩:=HB.out (by omega)
    have d0:=(HX.out.cell (p:=⟨ba,oa+k*2,none⟩) za).trans (ca k h1).1
    have d2:=(HX.out.cell (p:=⟨ba,oa+k*2+1,none⟩) za).trans (ca k h1).2
    have d1:=(HX.out.cell (p:=⟨bb,ob+k*2,none⟩) zb).trans (cb k h2).1
    have d3:=(HX.out.cell (p:=⟨bb,ob+k*2+1,none⟩) zb).trans (cb k h2).2
    have z0:ba<wr.heap.size:=Nat.lt_of_lt_of_le za HX.out.size
    have z1:bb<wr.heap.size:=Nat.lt_of_lt_of_le zb HX.out.size
    have jk:(k:Int)<(n:Int):=by omega
    have e1:l[k]? =some l[k]:=List.getElem?_eq_getElem h1
    have e2:m[k]? =some m[k]:=List.getElem?_eq_getElem h2
    obtain⟨x,hx⟩: ∃x,l[k]=x:=⟨_,rfl⟩
    obtain⟨y,hy⟩: ∃y,m[k]=y:=⟨_,rfl⟩
    rw[hx]at d0 d2 e1
    rw[hy]at d1 d3 e2
    have E1:=aA e1
    have E2:=aA e2
    clear h1 h2 ca cb hx hy e1 e2
    by_cases hxy:x=y
    ·have HN1:Hid (l.take (k+1)=m.take (k+1)):=aA (by rw[List.take_add_one,List.take_add_one,E1.out,E2.out,HT.out,hxy])
     have hq1: ∀w,(Op.equalIn 10000 28 (.agg #[.int .i64 x.1, .int .i64 x.2]) (.agg #[.int .i64 y.1, .int .i64 y.2])).run Tryz.prog w= .ok true w:=fun w=>by rw[bJ x y w,aX];simp[hxy]
     have hx:=HX.out
     clear hxy
     go_wp2
     go_quiet (fail)
     go_wp2
     go_roundw
     case rel=>exact⟨k+1,hlt,by go_num,HN1.out,z_x⟩
     case measure=>simp[intOf];omega
    ·have HF:Hid (decide (l=m)=false):=aA (by simp only[decide_eq_false_iff_not];intro e;rw[e,E2.out]at E1;exact hxy (Option.some.inj E1.out).symm)
     have hq1: ∀w,(Op.equalIn 10000 28 (.agg #[.int .i64 x.1, .int .i64 x.2]) (.agg #[.int .i64 y.1, .int .i64 y.2])).run Tryz.prog w= .ok false w:=fun w=>by rw[bJ x y w,aX];simp[hxy]
     clear hxy
     have hx:=HX.out
     go_wp2
     go_quiet (fail)
     go_wp2
     go_ret
     exact⟨by rw[HF.out]<;>rfl,z_x⟩
   ·obtain rfl:n=k:=by omega
    have HF:Hid (decide (l=m)=true):=aA (by
     have h:=HT.out
     rw[List.take_of_length_le (by rw[HN.out];exact Nat.le_refl _),List.take_of_length_le (by rw[←HLM.out,HN.out];exact Nat.le_refl _)]at h
     simpa using h)
    have hx:=HX.out
    go_wp2
    go_ret
    exact⟨by rw[HF.out]<;>rfl,z_x⟩
 ·have HF:Hid (decide (l=m)=false):=aA (by simp only[decide_eq_false_iff_not];intro e;exact hlen (by rw[e]))
  have hb0:((l.length:Int) !=(m.length:Int))=true:=by simp;omega
  obtain⟨n,hn⟩: ∃n,l.length=n:=⟨_,rfl⟩
  obtain⟨n2,hn2⟩: ∃n,m.length=n:=⟨_,rfl⟩
  have hb1:(n !=n2)=true:=by simp;omega
  rw[hn,hn2]at hb0⊢
  clear ha hb hlen hn hn2
  go_enter Tryz.func80,Tryz.ntmps80
  go_wp2
  go_ret
  exact⟨by rw[HF.out]<;>rfl,z_x⟩
def RowsU (w:World) (a:Option Addr) (ll:List (List Int)):Prop:=0<ll.length→ ∃b off,a=some ⟨b,off,none⟩∧b<w.heap.size∧ ∀k (h:k<ll.length),∃sa sc,w.cell? ⟨b,off+k,none⟩=some (.slice sa ll[k].length sc)∧RowU w sa ll[k]
theorem RowsU.ext {w w':World} {a:Option Addr} {l:List (List Int)} (h:RowsU w a l) (e:Ext w w'):RowsU w' a l:=fun h0=>by
 obtain⟨b,off,ha,hb,hc⟩:=h h0
 exact⟨b,off,ha,Nat.lt_of_lt_of_le hb e.size,fun k hk=>by
  obtain⟨sa,sc,h1,h2⟩:=hc k hk
  exact⟨sa,sc,(e.cell (p:=⟨b,off+k,none⟩) hb).trans h1,h2.ext e⟩⟩
theorem jD {w:World} {base:Nat} {v:Value} {ll:List (List Int)} (h:RowsAt w base v ll): ∃a c,v= .slice a ll.length c∧RowsU w a ll:=by
 obtain⟨ss,h1,h2,h3⟩:=h
 obtain⟨a,c,hv⟩:=h1.slice
 subst hv
 refine⟨a,c,by rw[h2],fun h0=> ?_⟩
 rcases h1.2 with⟨_,hz⟩|⟨g,cap,cur,hv,_⟩
 ·omega
 ·injection hv with ha hb hc
  subst ha
  have hrd:=Reads.cells h1.reads
  refine⟨g,0,rfl,hrd.1,fun k hk=> ?_⟩
  have hks:k<ss.length:=by omega
  have hown:=h3 k ss[k] ll[k] (List.getElem?_eq_getElem hks) (List.getElem?_eq_getElem hk)
  have hcell:=hrd.2.2 k ss[k] (List.getElem?_eq_getElem hks) 0 (.slice ss[k].1 ss[k].2.1 ss[k].2.2) rfl
  have hru:=Reads.rowU hown.reads
  refine⟨ss[k].1,ss[k].2.2,?_,hru.2⟩
  rw[←hru.1]
  simpa [iQ] using hcell
theorem RowsAt.u {w:World} {base n c:Nat} {a:Option Addr} {ll:List (List Int)} (h:RowsAt w base (.slice a n c) ll):RowsU w a ll:=by
 obtain⟨x,y,e,h2⟩:=jD h
 cases e
 exact h2
end Go.Proofs.YtaellcgglldjaaaGreat

