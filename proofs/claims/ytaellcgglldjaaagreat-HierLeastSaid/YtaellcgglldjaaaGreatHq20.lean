/- Part of a proof: HierA RefL HierB HierD. -/
import Derived.Test.YtaellcgglldjaaaGreatHq10
import Derived.Test.YtaellcgglldjaaaGreatHq11
import Derived.Test.YtaellcgglldjaaaGreatHq19
import Derived.Test.YtaellcgglldjaaaGreatHq09
import Derived.Test.YtaellcgglldjaaaGreatHq06
import Derived.Deep.CutBlock
import Derived.Test.YtaellcgglldjaaaGreatHq17
set_option linter.all false
set_option linter.unusedVariables false
set_option linter.unusedSimpArgs false
namespace Go.Proofs.YtaellcgglldjaaaGreat
open Go.RowKit
theorem aHb (p q:aB) (w:World):Calls Tryz.prog 152 #[.agg #[.int .i64 p.1, .int .i64 p.2], .agg #[.int .i64 q.1, .int .i64 q.2]] w fun e w'=>e= .returned (.int .i64 (gD p q))∧Grown w w':=by
 obtain⟨px,py⟩:=p
 obtain⟨qx,qy⟩:=q
 have HC:=aA (show gD (px,py) (qx,qy)=orI (Go.Lib.compareInt py qy) (Go.Lib.compareInt px qx) from rfl)
 rw[HC.out]
 simp only
 go_enter Tryz.func152,Tryz.ntmps152
 go_wp2_with fail
 have G2:=aA (((Grown.refl w).alloc (.cells #[.int .i64 px, .int .i64 py] 28)).alloc (.cells #[.int .i64 qx, .int .i64 qy] 28))
 have S2:Hid (CellsAt [(⟨w.heap.size,0,none⟩, .int .i64 px),(⟨w.heap.size,1,none⟩, .int .i64 py),(⟨w.heap.size+1,0,none⟩, .int .i64 qx),(⟨w.heap.size+1,1,none⟩, .int .i64 qy)] ((w.alloc (.cells #[.int .i64 px, .int .i64 py] 28)).alloc (.cells #[.int .i64 qx, .int .i64 qy] 28))):=aA ⟨by simp,by simp,by simp,by simp,trivial⟩
 obtain⟨w2,hw2⟩: ∃w2,(w.alloc (.cells #[.int .i64 px, .int .i64 py] 28)).alloc (.cells #[.int .i64 qx, .int .i64 qy] 28)=w2:=⟨_,rfl⟩
 rw[hw2]at G2 S2⊢
 obtain⟨g,hg⟩: ∃g,w.heap.size=g:=⟨_,rfl⟩
 rw[hg]at S2⊢
 clear hw2 hg HC
 refine aJ (S:=(fun X=>CellsAt [(⟨g,0,none⟩, .int .i64 px),(⟨g,1,none⟩, .int .i64 py),(⟨g+1,0,none⟩, .int .i64 qx),(⟨g+1,1,none⟩, .int .i64 qy)] X∧Grown w X)) [(0,true),(1,true),(2,true),(3,true),(5,true),(6,true),(7,true),(8,true),(4,false),(9,false),(10,false),(11,false),(12,true)] (by kernel_rfl) (by kernel_rfl) (by kernel_rfl) (by decide) (fun _ _ d _ _ h=>by cases d<;>exact h) ⟨CellsAt.ext ((Ext.refl _).drew) S2.out,G2.out.drew⟩ (fun hHeld=> ?_)
 iterate 8 (refine SeqH.fr2 ?_;try simp only[Act.put,z_3,z_4,z_5])
 (apply SeqH.step;(·(simp only[z_0,z_1,z_2];rfl));intro K hK;go_simp;refine(lW _ _ _).mono ?_;rintro e9 w9 ⟨rfl,rfl⟩;go_wp2_with fail;refine hK.out _ _ (⟨CellsAt.ext z_x S2.out,G2.out.drew⟩) (fun hHeld=> ?_);clear hK K;try simp only[Act.put,z_3,z_4,z_5])
 (apply SeqH.step;(·(simp only[z_0,z_1,z_2];rfl));intro K hK;go_simp;refine(lW _ _ _).mono ?_;rintro e9 w9 ⟨rfl,rfl⟩;go_wp2_with fail;refine hK.out _ _ (⟨CellsAt.ext z_x S2.out,G2.out.drew⟩) (fun hHeld=> ?_);clear hK K;try simp only[Act.put,z_3,z_4,z_5])
 (apply SeqH.step;(·(simp only[z_0,z_1,z_2];rfl));intro K hK;go_simp;refine hK.out _ _ (⟨CellsAt.ext z_x S2.out,(G2.out.drew).alloc _⟩) (fun hHeld=> ?_);clear hK K;try simp only[Act.put,z_3,z_4,z_5])
 (apply SeqH.step;(·(simp only[z_0,z_1,z_2];rfl));intro K hK;go_simp;refine(aC0 (Go.Lib.compareInt py qy) (Go.Lib.compareInt px qx) w2.heap.size _ ?_).mono ?_;(·exact fun k hk=>zY w2 _ _ _ _ rfl k hk);rintro e9 w9 ⟨rfl,rfl⟩;go_wp2_with fail;refine hK.out _ _ (⟨CellsAt.ext z_x S2.out,(G2.out.drew).alloc _⟩) (fun hHeld=> ?_);clear hK K;try simp only[Act.put,z_3,z_4,z_5])
 iterate 1 (refine SeqH.fr2 ?_;try simp only[Act.put,z_3,z_4,z_5])
 refine SeqH.done ?_
 have G:=aA hHeld.2
 clear hHeld
 go_wp2
 go_ret
 exact⟨rfl,G.out⟩
theorem aEh (blk off size:Nat) (w:World):Go.Proofs.CmpLays Tryz.prog 152 #[] fD 2 gD blk off size w:=
 fun _ _ _ _ x y=>aHb x y _
theorem aGl {w:World} {v:Value} {base:Nat} {l:List aB} (h:Own cellE w base 28 v l) (hl:l.length≤1000000):
  Calls Tryz.prog 133 #[v, .func (.func 152) #[] #[]] w fun e w'=>e= .returned (.tuple #[])∧Own cellE w' base 28 v (fV l)∧Touch (fun k=>v.ownBlock=some k) w w':=by
 obtain⟨a,c,rfl⟩:=h.slice
 rcases h.2 with⟨hv,h0⟩|⟨g,cap,cur,hv,hb,hg,_⟩
 ·obtain rfl:l=[]:=List.eq_nil_of_length_eq_zero h0
  exact(Go.Proofs.AnyF.slices_SortFunc_none wK a c _ w).mono fun e w' ⟨he,hw⟩=>⟨he,by rw[hw,show fV []=[] by simp[fV]];exact h,by rw[hw];exact Touch.refl _ _⟩
 ·cases hv
  have eg: ∀args w,(callFunc 152 args).run Tryz.prog w= .ok (.enter 152 args) w:=enters_of Tryz.func152 (by kernel_rfl) rfl
  refine(Go.Proofs.AnyQ.slices_SortFunc_total wK 2 Tryz.isAgg28 Tryz.sizeOf28 fD (fun _=>rfl) (fun x v hv=>by simp[fD]at hv;rcases hv with rfl|rfl<;>rfl) gD xE 152 #[] g 0 c l.toArray w eg (aEh _ _ _ _) (sM h) (lt_of_block hg) (by simp;omega) rX).mono ?_
  rintro e w' ⟨rfl,n,os,rfl⟩
  have o1:Own cellE (Go.Sort.ahead w n) base 28 (.slice (some ⟨g,0,none⟩) l.length c) l:=h
  have o2:=yS o1 (l':=fV l) (fW l).length_eq
  have t1:Touch (fun k=>k=g) w (Go.Sort.putRowK fD 2 (Go.Sort.ahead w n) g 0 (fV l).toArray):=(lN _ w n).trans (kO _ _ _ _ _)
  refine⟨rfl,o2.touch (fI (fun _=>False) _ os) (fun _ _ x=>x),(t1.trans (fI _ _ os)).mono (fun k _ hk=>by rw[hk];rfl)⟩
def aJf (w:World) (base:Nat) (v:Value) (L:List aB) (e:Ending) (w':World):Prop:=
 ∃v' L',e= .returned v'∧Own cellE w' base 28 v' L'∧L'.Pairwise ltC∧(∀c,c∈L'↔c∈L)∧Touch (fun k=>v.ownBlock=some k) w w'
theorem aFr {w:World} {v:Value} {base:Nat} {L:List aB} (h:Own cellE w base 28 v L) (hl:L.length≤100000):
  Calls Tryz.prog 97 #[v] w (aJf w base v L):=by
 have HS:=aA (aGl h (by omega))
 have HL:=aA hl
 obtain⟨a,c,rfl⟩:=h.slice
 clear h hl
 go_enter Tryz.func97,Tryz.ntmps97
 go_wp2_with fail
 refine(HS.out).mono ?_
 rintro e w1 ⟨rfl,o1,t1⟩
 have HC:=aA (qF (by rw[(fW L).length_eq];exact HL.out) (pJ L) o1)
 have T1:=aA t1
 clear o1 t1
 go_wp2_with fail
 refine(HC.out).mono ?_
 rintro e w2 ⟨v',L',rfl,o2,hs,hm,t2⟩
 have O2:=aA o2
 have HSS:=aA hs
 have HM:=aA hm
 have T2:=aA t2
 obtain⟨a',c',rfl⟩:=o2.slice
 clear o2 hs hm t2
 go_wp2_with fail
 go_ret
 exact⟨_,L',rfl,O2.out,HSS.out,fun c=>(HM.out c).trans (fW L).mem_iff,T1.out.trans T2.out⟩
def dV (pb:Nat) (W H s:Int) (fa:Option Addr) (n fc:Nat) (gv:Value) (f t:aB):Array Value:=
 #[.pointer (some ⟨pb,0,none⟩), .int .i64 W, .int .i64 H, .slice fa n fc, .int .i64 W, .int .i64 H, .int .i64 s,gv, .int .i64 f.1, .int .i64 f.2, .int .i64 t.1, .int .i64 t.2]
structure HLand (w:World) (lb:Nat) (p:Spot) (R:Nat→Prop) (W H s:Int) (l:List Int) (fa:Option Addr) (fc:Nat) (ga:Option Addr) (gc:Nat) (f t:aB):Prop where
 world:WorldAt w p R W H s l
 blk:Blk w lb 176 (dV p.b W H s fa l.length fc (.slice ga (aI W H s l).length gc) f t)
 row:Row16 w fa l
 gates:Own bV w 0 160 (.slice ga (aI W H s l).length gc) (aI W H s l)
 inF:inB W H f.1 f.2=true
 inT:inB W H t.1 t.2=true
theorem HLand.ext {w w':World} {lb:Nat} {p:Spot} {R:Nat→Prop} {W H s:Int} {l:List Int} {fa:Option Addr} {fc:Nat} {ga:Option Addr} {gc:Nat} {f t:aB} (h:HLand w lb p R W H s l fa fc ga gc f t) (x:Ext w w'):HLand w' lb p R W H s l fa fc ga gc f t where
 world:=h.world.ext x
 blk:=h.blk.ext x
 row:=h.row.ext x
 gates:=h.gates.ext x
 inF:=h.inF
 inT:=h.inT
theorem HLand.good {w:World} {lb:Nat} {p:Spot} {R:Nat→Prop} {W H s:Int} {l:List Int} {fa:Option Addr} {fc:Nat} {ga:Option Addr} {gc:Nat} {f t:aB} (h:HLand w lb p R W H s l fa fc ga gc f t):Good W H s l:=by
 obtain⟨G,T,h1,_⟩:=h.world;exact h1.good
section
variable {w:World} {lb:Nat} {p:Spot} {R:Nat→Prop} {W H s:Int} {l:List Int} {fa:Option Addr} {fc:Nat} {ga:Option Addr} {gc:Nat} {f t:aB}
theorem nZ (h:HLand w lb p R W H s l fa fc ga gc f t) {c:aB} (hc:inB W H c.1 c.2=true):
  Calls Tryz.prog 85 #[.pointer (some ⟨lb,0,none⟩), .agg #[.int .i64 c.1, .int .i64 c.2]] w fun e w'=>e= .returned (.int .i64 (aC W c:Nat))∧Ext w w':=by
 have B:=aA h.blk
 unfold dV at B
 have hb:=inB_true.1 hc
 have hix:((aC W (c.1,c.2):Nat):Int)=c.2*W+c.1:=bP (by omega) (by omega) (by omega)
 have hpm:0≤c.2*W∧c.2*W≤4294967296:=cP (a:=c.2) (b:=W) (A:=65536) (B:=65536) (by omega) (by omega) (by omega) (by omega)
 obtain⟨x,y⟩:=c
 simp only at hb hix hpm
 have k1:IntKind.i64.wrap (y*W)=y*W:=IntWalk.i64_in _ (by omega)
 have k2:IntKind.i64.wrap (y*W+x)=((aC W (x,y):Nat):Int):=by rw[IntWalk.i64_in _ (by omega)];exact hix.symm
 obtain⟨n,hn⟩: ∃z,l.length=z:=⟨_,rfl⟩
 obtain⟨m,hm⟩: ∃z,(aI W H s l).length=z:=⟨_,rfl⟩
 rw[hn,hm]at B
 have b0:=B.out.at 0 rfl;have b1:=B.out.at 1 rfl;have b2:=B.out.at 2 rfl;have b3:=B.out.at 3 rfl;have bz:=B.out.lt
 clear h hc hb hix hpm hn hm
 go_enter Tryz.func85,Tryz.ntmps85
 go_wp2_with fail
 go_quiet (fail)
 go_wp2_with fail
 go_ret
 exact⟨rfl,z_x⟩
theorem nN (h:HLand w lb p R W H s l fa fc ga gc f t) {c:aB} (hc:inB W H c.1 c.2=true):
  Calls Tryz.prog 41 #[.pointer (some ⟨lb,0,none⟩), .agg #[.int .i64 c.1, .int .i64 c.2]] w fun e w'=>e= .returned (.int .u64 (aH l W c))∧Ext w w':=by
 have HNB:=aA (fun(w':World) (x:Ext w w')=>nZ (h.ext x) hc)
 have B:=aA h.blk
 unfold dV at B
 have hlen:(l.length:Int)=W*H:=(checkE_ok.1 h.good.ok).2
 have hik:=pV hlen hc
 obtain⟨rb,ro,hfa,hrb,hrc⟩:=h.row (by omega)
 have d0:=hrc _ hik
 have hcst:l[aC W c]=aH l W c:=by
  unfold aH
  have hb:=inB_true.1 hc
  have hix:((aC W (c.1,c.2):Nat):Int)=c.2*W+c.1:=bP (by omega) (by omega) (by omega)
  have e:(c.2*W+c.1).toNat=aC W c:=by
   have:aC W c=aC W (c.1,c.2):=rfl
   omega
  rw[e,List.getD_eq_getElem?_getD,List.getElem?_eq_getElem hik]
  rfl
 rw[hcst]at d0
 have hu:=h.good.u16 _ (List.getElem_mem hik)
 rw[hcst]at hu
 subst hfa
 obtain⟨x,y⟩:=c
 have hin:(aC W (x,y):Int)<(l.length:Int):=by omega
 have HIK:=aA hik
 simp only at HNB
 generalize aC W (x,y)=ix at *
 generalize aH l W (x,y)=cv at *
 have k1:IntKind.u64.wrap cv=cv:=by rw[IntKind.wrap_u64];omega
 obtain⟨n,hn⟩: ∃z,l.length=z:=⟨_,rfl⟩
 obtain⟨m,hm⟩: ∃z,(aI W H s l).length=z:=⟨_,rfl⟩
 rw[hn,hm]at B
 rw[hn]at hin
 have b0:=B.out.at 0 rfl;have b1:=B.out.at 1 rfl;have b2:=B.out.at 2 rfl;have b3:=B.out.at 3 rfl;have bz:=B.out.lt
 clear h hc hlen hik hrc hcst hu hn hm HIK
 go_enter Tryz.func41,Tryz.ntmps41
 go_wp2_with fail
 obtain⟨w1,hw1⟩: ∃z,z=w.alloc (.cells #[.int .i64 x, .int .i64 y] 28):=⟨_,rfl⟩
 have x1:Ext w w1:=by rw[hw1];exact(Ext.refl _).alloc _
 have C1:=aA (show Blk w1 w.heap.size 28 #[.int .i64 x, .int .i64 y] by rw[hw1];exact Blk.new_ rfl)
 have B1:=aA (B.out.ext x1)
 have d1:=(x1.cell (p:=⟨rb,ro+ix,none⟩) hrb).trans d0
 have z1:=x1.size
 have hrb1:rb<w1.heap.size:=by omega
 rw[←hw1]
 clear hw1 b0 b1 b2 b3 bz d0
 have c0:=C1.out.at 0 rfl;have c1:=C1.out.at 1 rfl;have cz:=C1.out.lt
 have b0:=B1.out.at 0 rfl;have b1:=B1.out.at 1 rfl;have b2:=B1.out.at 2 rfl;have b3:=B1.out.at 3 rfl;have bz:=B1.out.lt
 refine aJ (S:=(fun W=>(∀b o,b<w1.heap.size→W.cell? ⟨b,o,none⟩=w1.cell? ⟨b,o,none⟩)∧Ext w1 W)) [(0,true),(1,true),(2,true),(3,true),(4,true),(5,true),(6,true),(7,false),(8,true),(9,true),(10,true),(11,true)] (by kernel_rfl) (by kernel_rfl) (by kernel_rfl) (by decide) (fun _ _ d _ _ h=>by cases d<;>exact h) (by first|with_reducible exact aM _|exact aG z_x) (fun hHeld=> ?_)
 iterate 7 (refine SeqH.fr1 ?_;try simp only[Act.put,z_3,z_4,z_5])
 (apply SeqH.step;(·(simp only[z_0,z_1,z_2];rfl));intro K hK;go_simp;refine(HNB.out _ (x1.trans z_x)).mono ?_;rintro e w2 ⟨rfl,hb2⟩;go_wp2_with fail;refine hK.out _ _ (aG z_x) (fun hHeld=> ?_);clear hK K;try simp only[Act.put,z_3,z_4,z_5])
 iterate 4 (refine SeqH.fr1 ?_;try simp only[Act.put,z_3,z_4,z_5])
 refine SeqH.done ?_
 have XE:=aA hHeld.2
 clear hHeld
 go_wp2_with fail
 go_ret
 exact⟨rfl,x1.trans XE.out⟩
end
end Go.Proofs.YtaellcgglldjaaaGreat

namespace Go.Proofs.YtaellcgglldjaaaGreat
open Go.RowKit
theorem mF {w:World} {a:Option Addr} {n c:Nat} {l:List aB} {k:Nat} {q:aB} (h:Reads cellE w (.slice a n c) l) (hk:l[k]? =some q): ∃b off,a=some ⟨b,off,none⟩∧b<w.heap.size∧w.cell? ⟨b,off+k*2,none⟩=some (.int .i64 q.1)∧w.cell? ⟨b,off+k*2+1,none⟩=some (.int .i64 q.2):=by
 rcases h with⟨_,rfl⟩|⟨b,off,cap,hv,hb,hc⟩
 ·simp at hk
 ·cases hv
  refine⟨b,off,rfl,hb,?_,?_⟩
  ·have:=hc k q hk 0 _ rfl
   simpa [cellE] using this
  ·have:=hc k q hk 1 _ rfl
   simpa [cellE,Nat.add_assoc] using this
end Go.Proofs.YtaellcgglldjaaaGreat

namespace Go.Proofs.YtaellcgglldjaaaGreat
open Go.RowKit
section
variable {w:World} {lb:Nat} {p:Spot} {R:Nat→Prop} {W H s:Int} {l:List Int} {fa:Option Addr} {fc:Nat} {ga:Option Addr} {gc:Nat} {f t:aB}
end
theorem yR (w:World) (base b:Nat) (f t:aB) (hb:b=w.heap.size) (hbase:base≤b):Own cellE (w.alloc (.cells #[.int .i64 f.1, .int .i64 f.2, .int .i64 t.1, .int .i64 t.2] 28)) base 28 (.slice (some ⟨b,0,none⟩) 2 2) [f,t]:=by
 subst hb
 exact⟨by simp[cellE], .inr ⟨w.heap.size,2, #[.int .i64 f.1, .int .i64 f.2, .int .i64 t.1, .int .i64 t.2],rfl,hbase,heap_alloc_new w _,by simp,by decide,by simp[cellE],by simp[cellE]⟩⟩
def aKy (w:World) (p:Spot) (R:Nat→Prop) (W H s:Int) (l:List Int) (f t:aB) (more:List aB) (e:Ending) (w':World):Prop:=
 ((((f::t::more).all fun c=>inB W H c.1 c.2)=false)∧e= .returned (.tuple #[.pointer none, .int .i64 10])∧Ext w w')∨
 ((((f::t::more).all fun c=>inB W H c.1 c.2)=true)∧ ∃lb fa fc ga gc,e= .returned (.tuple #[.pointer (some ⟨lb,0,none⟩), .int .i64 0])∧Ext w w'∧HLand w' lb p R W H s l fa fc ga gc f t)
set_option maxRecDepth 100000 in
set_option maxHeartbeats 1000000 in
theorem aI2 {w:World} {p:Spot} {R:Nat→Prop} {W H s:Int} {l:List Int} (h:WorldAt w p R W H s l) (f t:aB) (more:List aB) (ma:Option Addr) (mc:Nat) (hm:Reads cellE w (.slice ma more.length mc) more) (hml:more.length≤1000):
  Calls Tryz.prog 40 #[.pointer (some ⟨p.b,0,none⟩), .agg #[.int .i64 f.1, .int .i64 f.2], .agg #[.int .i64 t.1, .int .i64 t.2], .slice ma more.length mc] w (aKy w p R W H s l f t more):=by
 have HW:=aA h
 have HP:=aA (fun(w':World) (x:Ext w w')=>(by obtain⟨G,T,h1,_⟩:=h.ext x;exact mQ h1:Calls Tryz.prog 18 #[.pointer (some ⟨p.b,0,none⟩)] w' fun e w''=>e= .returned (.agg #[.int .i64 W, .int .i64 H, .int .i64 s])∧Ext w' w''))
 have HFd:=aA (fun(w':World) (x:Ext w w')=>(by obtain⟨G,T,h1,_⟩:=h.ext x;exact aAv h1:Calls Tryz.prog 84 #[.pointer (some ⟨p.b,0,none⟩)] w' (qV w' W H l)))
 have HGa:=aA (fun(w':World) (x:Ext w w')=>(by obtain⟨G,T,h1,h3⟩:=h.ext x;exact mP h1 h3.gates:Calls Tryz.prog 29 #[.pointer (some ⟨p.b,0,none⟩)] w' (oO w' (aI W H s l))))
 have HMR:=aA hm
 obtain⟨k0,hk0⟩: ∃z,more.length=z:=⟨_,rfl⟩
 have LM:=aA hk0
 rw[hk0]at HMR hml⊢
 obtain⟨pb,hpb⟩: ∃z,p.b=z:=⟨_,rfl⟩
 have HPB:=aA hpb
 rw[hpb]at HP HFd HGa⊢
 clear h hm hk0 hpb
 obtain⟨fx,fy⟩:=f
 obtain⟨tx,ty⟩:=t
 simp only
 go_enter Tryz.func40,Tryz.ntmps40
 go_upto_region 3 with(fail)
 obtain⟨w1,hw1⟩: ∃z,z=(w.alloc (.cells #[.int .i64 fx, .int .i64 fy] 28)).alloc (.cells #[.int .i64 tx, .int .i64 ty] 28):=⟨_,rfl⟩
 have X1:=aA (show Ext w w1 by rw[hw1];exact((Ext.refl _).alloc _).alloc _)
 have F1:=aA (show Blk w1 w.heap.size 28 #[.int .i64 fx, .int .i64 fy] by rw[hw1];exact(Blk.new_ rfl).over)
 have T1:=aA (show Blk w1 (w.heap.size+1) 28 #[.int .i64 tx, .int .i64 ty] by rw[hw1];exact Blk.new_ (by simp))
 rw[←hw1]
 clear hw1
 have c0:=F1.out.at 0 rfl;have c1:=F1.out.at 1 rfl;have cz:=F1.out.lt
 have d0:=T1.out.at 0 rfl;have d1:=T1.out.at 1 rfl;have dz:=T1.out.lt
 refine aJ (S:=(fun W=>(∀b o,b<w1.heap.size→W.cell? ⟨b,o,none⟩=w1.cell? ⟨b,o,none⟩)∧Ext w1 W)) [(0,true),(1,true),(3,true),(5,true),(7,true),(8,true),(2,false),(4,false),(6,false),(9,true),(10,false),(11,true)] (by kernel_rfl) (by kernel_rfl) (by kernel_rfl) (by decide) (fun _ _ d _ _ h=>by cases d<;>exact h) (by first|with_reducible exact aM _|exact aG z_x) (fun hHeld=> ?_)
 iterate 6 (refine SeqH.fr1 ?_;try simp only[Act.put,z_3,z_4,z_5])
 (apply SeqH.step;(·(simp only[z_0,z_1,z_2];rfl));intro K hK;go_simp;refine(HFd.out _ (X1.out.trans z_x)).mono ?_;rintro e w3 ⟨fa,fc,rfl,x3,o3⟩;have O3:=aA o3;clear o3;go_wp2_with fail;refine hK.out _ _ (aG z_x) (fun hHeld=> ?_);clear hK K;try simp only[Act.put,z_3,z_4,z_5])
 (apply SeqH.step;(·(simp only[z_0,z_1,z_2];rfl));intro K hK;go_simp;refine(HP.out _ (X1.out.trans z_x)).mono ?_;rintro e w4 ⟨rfl,x4⟩;go_wp2_with fail;refine hK.out _ _ (aG z_x) (fun hHeld=> ?_);clear hK K;try simp only[Act.put,z_3,z_4,z_5])
 (apply SeqH.step;(·(simp only[z_0,z_1,z_2];rfl));intro K hK;go_simp;refine(HGa.out _ (X1.out.trans z_x)).mono ?_;rintro e w5 ⟨v5,rfl,x5,o5⟩;obtain⟨ga,gc,rfl⟩:=o5.slice;have O5:=aA o5;have O3c:=aA ((O3.out.ext x4).ext x5);have X5:=aA (show Ext w1 w5 from z_x);clear o5;go_wp2_with fail;refine hK.out _ _ (aG z_x) (fun hHeld=> ?_);clear hK K;try simp only[Act.put,z_3,z_4,z_5])
 iterate 1 (refine SeqH.fr1 ?_;try simp only[Act.put,z_3,z_4,z_5])
 (apply SeqH.step;(·(simp only[z_0,z_1,z_2];rfl));intro K hK;go_simp;refine hK.out _ _ (aG z_x) (fun hHeld=> ?_);clear hK K;try simp only[Act.put,z_3,z_4,z_5])
 iterate 1 (refine SeqH.fr1 ?_;try simp only[Act.put,z_3,z_4,z_5])
 refine SeqH.done ?_
 obtain⟨w6,hw6⟩: ∃z,z=w5.alloc (.cells #[.pointer (some ⟨pb,0,none⟩), .int .i64 W, .int .i64 H, .slice fa l.length fc, .int .i64 W, .int .i64 H, .int .i64 s, .slice ga (aI W H s l).length gc, .int .i64 fx, .int .i64 fy, .int .i64 tx, .int .i64 ty] 176):=⟨_,rfl⟩
 have x6:Ext w5 w6:=by rw[hw6];exact(Ext.refl _).alloc _
 have B6:=aA (show Blk w6 w5.heap.size 176 #[.pointer (some ⟨pb,0,none⟩), .int .i64 W, .int .i64 H, .slice fa l.length fc, .int .i64 W, .int .i64 H, .int .i64 s, .slice ga (aI W H s l).length gc, .int .i64 fx, .int .i64 fy, .int .i64 tx, .int .i64 ty] by rw[hw6];exact Blk.new_ rfl)
 have X6:=aA ((X1.out.trans X5.out).trans x6)
 have O3d:=aA (O3c.out.ext x6)
 have O5d:=aA (O5.out.ext x6)
 have F6:=aA (F1.out.ext (X5.out.trans x6))
 have T6:=aA (T1.out.ext (X5.out.trans x6))
 rw[←hw6]
 obtain⟨lb,hlb⟩: ∃z,w5.heap.size=z:=⟨_,rfl⟩
 rw[hlb]at B6⊢
 clear hHeld hw6 x6 x3 x4 x5 O3 O3c O5 c0 c1 cz d0 d1 dz hlb F1 T1 X1 X5
 have c0:=F6.out.at 0 rfl;have c1:=F6.out.at 1 rfl;have cz:=F6.out.lt
 have d0:=T6.out.at 0 rfl;have d1:=T6.out.at 1 rfl;have dz:=T6.out.lt
 obtain⟨C,hC⟩: ∃z,[(fx,fy),(tx,ty)]++more=z:=⟨_,rfl⟩
 have HC:=aA (show(fx,fy)::(tx,ty)::more=C from hC)
 have HKL:=aA hC
 obtain⟨k1,hk1⟩: ∃z,C.length=z:=⟨_,rfl⟩
 have LC:=aA hk1
 have hk1b:k1≤1002:=by rw[←hk1,←hC,List.length_append,LM.out];simp;omega
 have hk1p:2≤k1:=by rw[←hk1,←hC,List.length_append];simp
 clear hC hk1
 go_wp2_with (at_builtin;refine dJ cellE T_cells rfl _ _ rfl w6.heap.size _ [(fx,fy),(tx,ty)] more rfl (yR w6 _ _ (fx,fy) (tx,ty) rfl (Nat.le_refl _)) _ rfl (HMR.out.ext (X6.out.trans ((Ext.refl _).alloc _))) (by rw[LM.out];simp;omega) (by rw[LM.out];simp;omega) (by simp) ?_;intro v9 w9 o9 t9 l9;obtain⟨va,vc,rfl⟩:=o9.slice;rw[HKL.out,LC.out]at o9⊢;have O9:=aA o9;have X9:=aA (((Ext.refl w6).alloc (.cells #[.int .i64 fx, .int .i64 fy, .int .i64 tx, .int .i64 ty] 28)).of_below (t9.to_below (B:=w6.heap.size) (by simp) (fun k hk=>by cases hk;exact Nat.le_refl _)) (Nat.le_refl _));clear o9 t9 l9)
 have B9:=aA (B6.out.ext X9.out)
 have X9w:=aA (X6.out.trans X9.out)
 have O3e:=aA (O3d.out.ext X9.out)
 have O5e:=aA (O5d.out.ext X9.out)
 clear c0 c1 cz d0 d1 dz F6 T6 B6 X6 O3d O5d X9
 go_loopw [32] (fun iv wr=> ∃k:Nat,k≤k1∧iv= .int .i64 (k:Int)∧((C.take k).all fun c=>inB W H c.1 c.2)=true∧Ext w9 wr) (fun iv _=>k1-(intOf iv).toNat)
 case atStart=>exact⟨0,Nat.zero_le _,rfl,rfl,Ext.refl _⟩
 case round=>
  obtain⟨k,hk,rfl,hall,hx⟩:=hrel
  have HALL:=aA hall
  have XR:=aA hx
  clear hall hx
  by_cases hlt:k<k1
  ·have hkl:k<C.length:=by rw[LC.out];exact hlt
   obtain⟨rb,ro,hre,hrb,q0,q1⟩:=mF (O9.out.reads.ext XR.out) (List.getElem?_eq_getElem hkl)
   subst hre
   have HTK:Hid (((C.take (k+1)).all fun c=>inB W H c.1 c.2)=(((C.take k).all fun c=>inB W H c.1 c.2)&&inB W H C[k].1 C[k].2)):=aA (by
    rw[List.take_add_one,List.getElem?_eq_getElem hkl,List.all_append]
    simp)
   have HAL:=aA (fun(h:inB W H C[k].1 C[k].2=false)=>(show(C.all fun c=>inB W H c.1 c.2)=false from by
    rw[Bool.eq_false_iff]
    intro h2
    have:=List.all_eq_true.1 h2 C[k] (List.getElem_mem hkl)
    rw[h]at this
    cases this))
   generalize C[k]=pc at *
   obtain⟨px,py⟩:=pc
   simp only at q0 q1 HTK HAL
   have jk:(k:Int)<(k1:Int):=by omega
   go_upto_region 7 with(fail)
   obtain⟨wc,hwc⟩: ∃z,z=wr.alloc (.cells #[.int .i64 px, .int .i64 py] 28):=⟨_,rfl⟩
   have xc:Ext wr wc:=by rw[hwc];exact(Ext.refl _).alloc _
   have BC:=aA (show Blk wc wr.heap.size 28 #[.int .i64 px, .int .i64 py] by rw[hwc];exact Blk.new_ rfl)
   have XC:=aA (XR.out.trans xc)
   have BL:=aA (B9.out.ext XC.out)
   rw[←hwc]
   clear hwc xc hkl q0 q1
   have c0:=BC.out.at 0 rfl;have c1:=BC.out.at 1 rfl;have cz:=BC.out.lt
   have y0:=BL.out.at 0 rfl;have y1:=BL.out.at 1 rfl;have y2:=BL.out.at 2 rfl;have y3:=BL.out.at 3 rfl;have y4:=BL.out.at 4 rfl;have y5:=BL.out.at 5 rfl;have y6:=BL.out.at 6 rfl;have y7:=BL.out.at 7 rfl;have y8:=BL.out.at 8 rfl;have y9:=BL.out.at 9 rfl;have y10:=BL.out.at 10 rfl;have y11:=BL.out.at 11 rfl;have yz:=BL.out.lt
   have HIN:=aA (fun w'=>fG W H px py w')
   generalize inB W H px py=ib at *
   refine aJ (S:=(fun W=>(∀b o,b<wc.heap.size→W.cell? ⟨b,o,none⟩=wc.cell? ⟨b,o,none⟩)∧Ext wc W)) [(0,true),(1,true),(2,true),(3,true),(4,true),(5,true),(6,false),(7,true)] (by kernel_rfl) (by kernel_rfl) (by kernel_rfl) (by decide) (fun _ _ d _ _ h=>by cases d<;>exact h) (by first|with_reducible exact aM _|exact aG z_x) (fun hHeld=> ?_)
   iterate 6 (refine SeqH.fr1 ?_;try simp only[Act.put,z_3,z_4,z_5])
   (apply SeqH.step;(·(simp only[z_0,z_1,z_2];rfl));intro K hK;go_simp;refine(HIN.out _).mono ?_;rintro e w10 ⟨rfl,hb10⟩;go_wp2_with fail;refine hK.out _ _ (aG z_x) (fun hHeld=> ?_);clear hK K;try simp only[Act.put,z_3,z_4,z_5])
   iterate 1 (refine SeqH.fr1 ?_;try simp only[Act.put,z_3,z_4,z_5])
   refine SeqH.done ?_
   have XE:=aA hHeld.2
   clear hHeld
   cases ib
   ·go_wp2_with fail
    refine bodyPost_ret (v:= .tuple #[.pointer none, .int .i64 10]) (by simp[results,Tryz.results40,go_sem, *]) rfl ?_
    exact .inl ⟨by rw[HC.out];exact HAL.out (by first|rfl|trivial),rfl,X9w.out.trans (XC.out.trans XE.out)⟩
   ·go_wp2_with fail
    go_roundw
    case rel=>exact⟨k+1,by omega,by go_num,by rw[HTK.out,HALL.out];rfl,XC.out.trans XE.out⟩
    case measure=>simp[intOf];omega
  ·obtain rfl:k1=k:=by omega
   rw[List.take_of_length_le (by rw[LC.out];exact Nat.le_refl _)]at HALL
   go_wp2_with fail
   refine bodyPost_ret (v:= .tuple #[.pointer (some ⟨lb,0,none⟩), .int .i64 0]) (by simp[results,Tryz.results40,go_sem, *]) rfl ?_
   have hall:(((fx,fy)::(tx,ty)::more).all fun c=>inB W H c.1 c.2)=true:=by rw[HC.out];exact HALL.out
   refine .inr ⟨hall,lb,fa,fc,ga,gc,rfl,X9w.out.trans XR.out,?_⟩
   exact {
    world:=HW.out.ext (X9w.out.trans XR.out)
    blk:=by unfold dV;rw[HPB.out];exact B9.out.ext XR.out
    row:=(sW O3e.out).ext XR.out
    gates:=(O5e.out.ext XR.out).lower (Nat.zero_le _)
    inF:=List.all_eq_true.1 hall (fx,fy) (by simp)
    inT:=List.all_eq_true.1 hall (tx,ty) (by simp)}
end Go.Proofs.YtaellcgglldjaaaGreat

namespace Go.Proofs.YtaellcgglldjaaaGreat
open Go.RowKit
def bX (a b:aB) (x:Int):Value:= .agg #[.int .i64 a.1, .int .i64 a.2, .int .i64 b.1, .int .i64 b.2, .int .u64 x]
def oJ (W:Int) (l:List Int) (g:aB×aB) (a:aB):Value:=if g.1=a then bX a g.2 (aH l W g.2) else if g.2=a then bX a g.1 (aH l W g.1) else bX (0,0) (0,0) 0
section
variable {w:World} {lb:Nat} {p:Spot} {R:Nat→Prop} {W H s:Int} {l:List Int} {fa:Option Addr} {fc:Nat} {ga:Option Addr} {gc:Nat} {f t:aB}
set_option maxRecDepth 100000 in
set_option maxHeartbeats 1000000 in
theorem aB5 (h:HLand w lb p R W H s l fa fc ga gc f t) (g:aB×aB) (a:aB) (h1:inB W H g.1.1 g.1.2=true) (h2:inB W H g.2.1 g.2.2=true):
  Calls Tryz.prog 101 #[.pointer (some ⟨lb,0,none⟩), .agg #[.int .i64 g.1.1, .int .i64 g.1.2, .int .i64 g.2.1, .int .i64 g.2.2], .agg #[.int .i64 a.1, .int .i64 a.2]] w fun e w'=>e= .returned (oJ W l g a)∧Ext w w':=by
 have HC1:=aA (fun(w':World) (x:Ext w w')=>nN (h.ext x) h1)
 have HC2:=aA (fun(w':World) (x:Ext w w')=>nN (h.ext x) h2)
 clear h h1 h2
 obtain⟨⟨ux,uy⟩,⟨vx,vy⟩⟩:=g
 obtain⟨ax,ay⟩:=a
 simp only at HC1 HC2
 have hE1:=fun(w:World)=>bJ (ax,ay) (ux,uy) w
 have hE2:=fun(w:World)=>bJ (ax,ay) (vx,vy) w
 simp only at hE1 hE2
 rw[aX]at hE1 hE2
 obtain⟨V,hV⟩: ∃V,oJ W l ((ux,uy),(vx,vy)) (ax,ay)=V:=⟨_,rfl⟩
 have V1:=aA (fun(h:(ax,ay)=(ux,uy))=>(show bX (ax,ay) (vx,vy) (aH l W (vx,vy))=V from by rw[←hV];unfold oJ;rw[if_pos h.symm]))
 have V2:=aA (fun(h: ¬(ax,ay)=(ux,uy)) (h':(ax,ay)=(vx,vy))=>(show bX (ax,ay) (ux,uy) (aH l W (ux,uy))=V from by rw[←hV];unfold oJ;rw[if_neg (fun e=>h e.symm),if_pos h'.symm]))
 have V3:=aA (fun(h: ¬(ax,ay)=(ux,uy)) (h': ¬(ax,ay)=(vx,vy))=>(show bX (0,0) (0,0) 0=V from by rw[←hV];unfold oJ;rw[if_neg (fun e=>h e.symm),if_neg (fun e=>h' e.symm)]))
 rw[hV]
 clear hV
 simp only
 go_enter Tryz.func101,Tryz.ntmps101
 go_upto_region 1 with(fail)
 obtain⟨w1,hw1⟩: ∃z,z=((w.alloc (.cells #[.int .i64 ux, .int .i64 uy, .int .i64 vx, .int .i64 vy] 160)).alloc (.cells #[.int .i64 ax, .int .i64 ay] 28)).alloc (.cells #[.int .i64 0, .int .i64 0, .int .i64 0, .int .i64 0, .int .u64 0] 56):=⟨_,rfl⟩
 have X1:=aA (show Ext w w1 by rw[hw1];exact(((Ext.refl _).alloc _).alloc _).alloc _)
 have G1:=aA (show Blk w1 w.heap.size 160 #[.int .i64 ux, .int .i64 uy, .int .i64 vx, .int .i64 vy] by rw[hw1];exact(Blk.new_ rfl).over.over)
 have A1:=aA (show Blk w1 (w.heap.size+1) 28 #[.int .i64 ax, .int .i64 ay] by rw[hw1];exact(Blk.new_ (by simp)).over)
 have L1:=aA (show Blk w1 (w.heap.size+1+1) 56 #[.int .i64 0, .int .i64 0, .int .i64 0, .int .i64 0, .int .u64 0] by rw[hw1];exact Blk.new_ (by simp))
 rw[←hw1]
 obtain⟨gb,hgb⟩: ∃z,w.heap.size=z:=⟨_,rfl⟩
 have zgw:w.heap.size≤gb:=by omega
 rw[hgb]at G1 A1 L1⊢
 clear hw1 hgb
 have g0:=G1.out.at 0 rfl;have g1:=G1.out.at 1 rfl;have g2:=G1.out.at 2 rfl;have g3:=G1.out.at 3 rfl;have gz:=G1.out.lt
 have c0:=A1.out.at 0 rfl;have c1:=A1.out.at 1 rfl;have cz:=A1.out.lt
 have r0:=L1.out.at 0 rfl;have r1:=L1.out.at 1 rfl;have r2:=L1.out.at 2 rfl;have r3:=L1.out.at 3 rfl;have r4:=L1.out.at 4 rfl;have rz:=L1.out.lt
 have S0:=aA (show CellsAt [(⟨gb,0,none⟩, .int .i64 ux),(⟨gb,1,none⟩, .int .i64 uy),(⟨gb,2,none⟩, .int .i64 vx),(⟨gb,3,none⟩, .int .i64 vy),(⟨gb+1,0,none⟩, .int .i64 ax),(⟨gb+1,1,none⟩, .int .i64 ay)] w1 from⟨g0,g1,g2,g3,c0,c1,trivial⟩)
 have FIN:Hid (∀(w2:World) (a b c d e:Value),Ext w1 w2→Blk (((((w2.setCell ⟨gb+1+1,0,none⟩ a).setCell ⟨gb+1+1,1,none⟩ b).setCell ⟨gb+1+1,2,none⟩ c).setCell ⟨gb+1+1,3,none⟩ d).setCell ⟨gb+1+1,4,none⟩ e) (gb+1+1) 56 #[a,b,c,d,e]∧Ext w (((((w2.setCell ⟨gb+1+1,0,none⟩ a).setCell ⟨gb+1+1,1,none⟩ b).setCell ⟨gb+1+1,2,none⟩ c).setCell ⟨gb+1+1,3,none⟩ d).setCell ⟨gb+1+1,4,none⟩ e)):=aA (fun w2 a b c d e x=>by
  refine⟨?_,?_⟩
  ·exact(((((L1.out.ext x).set_ 0 a).set_ 1 b).set_ 2 c).set_ 3 d).set_ 4 e
  ·exact(((((X1.out.trans x).setCell (p:=⟨gb+1+1,0,none⟩) (by simp;omega) a).setCell (p:=⟨gb+1+1,1,none⟩) (by simp;omega) b).setCell (p:=⟨gb+1+1,2,none⟩) (by simp;omega) c).setCell (p:=⟨gb+1+1,3,none⟩) (by simp;omega) d).setCell (p:=⟨gb+1+1,4,none⟩) (by simp;omega) e)
 have rf0:=L1.out.frozen 0
 have rf1:=L1.out.frozen 1
 have rf2:=L1.out.frozen 2
 have rf3:=L1.out.frozen 3
 have rf4:=L1.out.frozen 4
 by_cases e1:(ax,ay)=(ux,uy)
 ·have d1:decide ((ax,ay)=(ux,uy))=true:=by simpa using e1
  rw[d1]at hE1
  have HVV:=aA (V1.out e1)
  go_upto_region 3 with(fail)
  refine oE (S:=(CellsAt [(⟨gb,0,none⟩, .int .i64 ux),(⟨gb,1,none⟩, .int .i64 uy),(⟨gb,2,none⟩, .int .i64 vx),(⟨gb,3,none⟩, .int .i64 vy),(⟨gb+1,0,none⟩, .int .i64 ax),(⟨gb+1,1,none⟩, .int .i64 ay)])) 8 [(0,true),(1,true),(2,true),(3,true),(4,true),(5,true),(6,false),(7,true),(8,false)] (by kernel_rfl) (by kernel_rfl) (by kernel_rfl) (by decide) (fun _ _ d _ _ h=>by cases d<;>exact h) (CellsAt.ext ((Ext.refl _).drew) S0.out) (fun hHeld=> ?_)
  iterate 6 (refine SeqR.fr2 ?_;try simp only[Act.put,z_3,z_4,z_5])
  (apply SeqR.step;(·(simp only[z_0,z_1,z_2];rfl));intro K hK;go_simp;refine(HC2.out _ (X1.out.trans z_x)).mono ?_;rintro e w3 ⟨rfl,x3⟩;have X3:=aA (show Ext w1 w3 from z_x);have L3:=aA (L1.out.ext X3.out);have t0:=L3.out.at 0 rfl;have t1:=L3.out.at 1 rfl;have t2:=L3.out.at 2 rfl;have t3:=L3.out.at 3 rfl;have t4:=L3.out.at 4 rfl;have tz:=L3.out.lt;have tf0:=L3.out.frozen 0;have tf1:=L3.out.frozen 1;have tf2:=L3.out.frozen 2;have tf3:=L3.out.frozen 3;have tf4:=L3.out.frozen 4;clear x3;go_wp2_with fail;refine hK.out _ _ (fun _=>(CellsAt.ext X3.out S0.out)) (fun hHeld=> ?_);replace hHeld:=hHeld (by decide);clear hK K;try simp only[Act.put,z_3,z_4,z_5])
  iterate 1 (refine SeqR.fr2 ?_;try simp only[Act.put,z_3,z_4,z_5])
  (apply SeqR.step;(·(simp only[z_0,z_1,z_2];rfl));intro K hK;go_simp;refine hK.out _ _ (fun h=>absurd rfl h) (fun hHeld=> ?_);clear hK K;try simp only[Act.put,z_3,z_4,z_5])
  refine SeqR.done ?_
  clear hHeld t0 t1 t2 t3 t4 tz tf0 tf1 tf2 tf3 tf4 r0 r1 r2 r3 r4 rz rf0 rf1 rf2 rf3 rf4 c0 c1 cz g0 g1 g2 g3 gz
  have FB:=aA (FIN.out w3 (.int .i64 ax) (.int .i64 ay) (.int .i64 vx) (.int .i64 vy) (.int .u64 (aH l W (vx,vy))) X3.out)
  have y0:=FB.out.1.at 0 rfl
  have y1:=FB.out.1.at 1 rfl
  have y2:=FB.out.1.at 2 rfl
  have y3:=FB.out.1.at 3 rfl
  have y4:=FB.out.1.at 4 rfl
  have yz:=FB.out.1.lt
  go_wp2_with fail
  exact bodyPost_ret (v:= .agg #[.int .i64 ax, .int .i64 ay, .int .i64 vx, .int .i64 vy, .int .u64 (aH l W (vx,vy))]) (by simp[results,Tryz.results101,go_sem, *]) rfl ⟨congrArg Ending.returned HVV.out,FB.out.2⟩
 ·have d1:decide ((ax,ay)=(ux,uy))=false:=by simpa using e1
  rw[d1]at hE1
  by_cases e2:(ax,ay)=(vx,vy)
  ·have d2:decide ((ax,ay)=(vx,vy))=true:=by simpa using e2
   rw[d2]at hE2
   have HVV:=aA (V2.out e1 e2)
   go_upto_region 5 with(fail)
   refine oE (S:=(CellsAt [(⟨gb,0,none⟩, .int .i64 ux),(⟨gb,1,none⟩, .int .i64 uy),(⟨gb,2,none⟩, .int .i64 vx),(⟨gb,3,none⟩, .int .i64 vy),(⟨gb+1,0,none⟩, .int .i64 ax),(⟨gb+1,1,none⟩, .int .i64 ay)])) 8 [(0,true),(1,true),(2,true),(3,true),(4,true),(5,true),(6,false),(7,true),(8,false)] (by kernel_rfl) (by kernel_rfl) (by kernel_rfl) (by decide) (fun _ _ d _ _ h=>by cases d<;>exact h) (CellsAt.ext ((Ext.refl _).drew) S0.out) (fun hHeld=> ?_)
   iterate 6 (refine SeqR.fr2 ?_;try simp only[Act.put,z_3,z_4,z_5])
   (apply SeqR.step;(·(simp only[z_0,z_1,z_2];rfl));intro K hK;go_simp;refine(HC1.out _ (X1.out.trans z_x)).mono ?_;rintro e w3 ⟨rfl,x3⟩;have X3:=aA (show Ext w1 w3 from z_x);have L3:=aA (L1.out.ext X3.out);have t0:=L3.out.at 0 rfl;have t1:=L3.out.at 1 rfl;have t2:=L3.out.at 2 rfl;have t3:=L3.out.at 3 rfl;have t4:=L3.out.at 4 rfl;have tz:=L3.out.lt;have tf0:=L3.out.frozen 0;have tf1:=L3.out.frozen 1;have tf2:=L3.out.frozen 2;have tf3:=L3.out.frozen 3;have tf4:=L3.out.frozen 4;clear x3;go_wp2_with fail;refine hK.out _ _ (fun _=>(CellsAt.ext X3.out S0.out)) (fun hHeld=> ?_);replace hHeld:=hHeld (by decide);clear hK K;try simp only[Act.put,z_3,z_4,z_5])
   iterate 1 (refine SeqR.fr2 ?_;try simp only[Act.put,z_3,z_4,z_5])
   (apply SeqR.step;(·(simp only[z_0,z_1,z_2];rfl));intro K hK;go_simp;refine hK.out _ _ (fun h=>absurd rfl h) (fun hHeld=> ?_);clear hK K;try simp only[Act.put,z_3,z_4,z_5])
   refine SeqR.done ?_
   clear hHeld t0 t1 t2 t3 t4 tz tf0 tf1 tf2 tf3 tf4 r0 r1 r2 r3 r4 rz rf0 rf1 rf2 rf3 rf4 c0 c1 cz g0 g1 g2 g3 gz
   have FB:=aA (FIN.out w3 (.int .i64 ax) (.int .i64 ay) (.int .i64 ux) (.int .i64 uy) (.int .u64 (aH l W (ux,uy))) X3.out)
   have y0:=FB.out.1.at 0 rfl
   have y1:=FB.out.1.at 1 rfl
   have y2:=FB.out.1.at 2 rfl
   have y3:=FB.out.1.at 3 rfl
   have y4:=FB.out.1.at 4 rfl
   have yz:=FB.out.1.lt
   go_wp2_with fail
   exact bodyPost_ret (v:= .agg #[.int .i64 ax, .int .i64 ay, .int .i64 ux, .int .i64 uy, .int .u64 (aH l W (ux,uy))]) (by simp[results,Tryz.results101,go_sem, *]) rfl ⟨congrArg Ending.returned HVV.out,FB.out.2⟩
  ·have d2:decide ((ax,ay)=(vx,vy))=false:=by simpa using e2
   rw[d2]at hE2
   have HVV:=aA (V3.out e1 e2)
   have FB:=aA (FIN.out w1 (.int .i64 0) (.int .i64 0) (.int .i64 0) (.int .i64 0) (.int .u64 0) (Ext.refl _))
   have y0:=FB.out.1.at 0 rfl
   have y1:=FB.out.1.at 1 rfl
   have y2:=FB.out.1.at 2 rfl
   have y3:=FB.out.1.at 3 rfl
   have y4:=FB.out.1.at 4 rfl
   have yz:=FB.out.1.lt
   go_wp2_with fail
   exact bodyPost_ret (v:= .agg #[.int .i64 0, .int .i64 0, .int .i64 0, .int .i64 0, .int .u64 0]) (by simp[results,Tryz.results101,go_sem, *]) rfl ⟨congrArg Ending.returned HVV.out,FB.out.2⟩
end
end Go.Proofs.YtaellcgglldjaaaGreat

