/- Part of a proof: HierA RefL. -/
import Derived.Test.YtaellcgglldjaaaGreatHierNodesQ11
import Derived.Test.YtaellcgglldjaaaGreatHierNodesQ13
import Derived.Test.YtaellcgglldjaaaGreatHierNodesQ21
import Derived.Test.YtaellcgglldjaaaGreatHierNodesQ10
import Derived.Test.YtaellcgglldjaaaGreatHierNodesQ07
import Derived.Test.YtaellcgglldjaaaGreatHierNodesQ12
import Derived.Deep.CutBlock
set_option linter.all false
set_option linter.unusedVariables false
set_option linter.unusedSimpArgs false
namespace Go.Proofs.YtaellcgglldjaaaGreat
open Go.RowKit
theorem aJn (p q:aB) (w:World):Calls Tryz.prog 152 #[.agg #[.int .i64 p.1, .int .i64 p.2], .agg #[.int .i64 q.1, .int .i64 q.2]] w fun e w'=>e= .returned (.int .i64 (gM p q))∧Grown w w':=by
 obtain⟨px,py⟩:=p
 obtain⟨qx,qy⟩:=q
 have HC:=aA (show gM (px,py) (qx,qy)=orI (Go.Lib.compareInt py qy) (Go.Lib.compareInt px qx) from rfl)
 rw[HC.out]
 simp only
 go_enter Tryz.func152,Tryz.ntmps152
 go_wp2_with fail
 have G2:=aA (((Grown.refl w).alloc (.cells #[.int .i64 px, .int .i64 py] 28)).alloc (.cells #[.int .i64 qx, .int .i64 qy] 28))
 have S2:Hid (CellsAt [(⟨w.heap.size,0,none⟩, .int .i64 px),(⟨w.heap.size,1,none⟩, .int .i64 py),(⟨w.heap.size+1,0,none⟩, .int .i64 qx),(⟨w.heap.size+1,1,none⟩, .int .i64 qy)] ((w.alloc (.cells #[.int .i64 px, .int .i64 py] 28)).alloc (.cells #[.int .i64 qx, .int .i64 qy] 28))):=aA ⟨by simp,by simp,by simp,by simp,trivial⟩
 obtain⟨w2,hw2⟩: ∃w2,(w.alloc (.cells #[.int .i64 px, .int .i64 py] 28)).alloc (.cells #[.int .i64 qx, .int .i64 qy] 28)=w2:=⟨_,rfl⟩
 rw[hw2]at G2 S2⊢
 obtain⟨g,hg⟩: ∃g,w.heap.size=g:=⟨_,rfl⟩
 rw[hg]at S2⊢
 clear hw2 hg HC
 refine aF (S:=(fun X=>CellsAt [(⟨g,0,none⟩, .int .i64 px),(⟨g,1,none⟩, .int .i64 py),(⟨g+1,0,none⟩, .int .i64 qx),(⟨g+1,1,none⟩, .int .i64 qy)] X∧Grown w X)) [(0,true),(1,true),(2,true),(3,true),(5,true),(6,true),(7,true),(8,true),(4,false),(9,false),(10,false),(11,false),(12,true)] (by kernel_rfl) (by kernel_rfl) (by kernel_rfl) (by decide) (fun _ _ d _ _ h=>by cases d<;>exact h) ⟨CellsAt.ext ((Ext.refl _).drew) S2.out,G2.out.drew⟩ (fun hHeld=> ?_)
 iterate 8 (refine SeqH.fr2 ?_;try simp only[Act.put,z_3,z_4,z_5])
 (apply SeqH.step;(·(simp only[z_0,z_1,z_2];rfl));intro K hK;go_simp;refine(mN _ _ _).mono ?_;rintro e9 w9 ⟨rfl,rfl⟩;go_wp2_with fail;refine hK.out _ _ (⟨CellsAt.ext z_x S2.out,G2.out.drew⟩) (fun hHeld=> ?_);clear hK K;try simp only[Act.put,z_3,z_4,z_5])
 (apply SeqH.step;(·(simp only[z_0,z_1,z_2];rfl));intro K hK;go_simp;refine(mN _ _ _).mono ?_;rintro e9 w9 ⟨rfl,rfl⟩;go_wp2_with fail;refine hK.out _ _ (⟨CellsAt.ext z_x S2.out,G2.out.drew⟩) (fun hHeld=> ?_);clear hK K;try simp only[Act.put,z_3,z_4,z_5])
 (apply SeqH.step;(·(simp only[z_0,z_1,z_2];rfl));intro K hK;go_simp;refine hK.out _ _ (⟨CellsAt.ext z_x S2.out,(G2.out.drew).alloc _⟩) (fun hHeld=> ?_);clear hK K;try simp only[Act.put,z_3,z_4,z_5])
 (apply SeqH.step;(·(simp only[z_0,z_1,z_2];rfl));intro K hK;go_simp;refine(aBx (Go.Lib.compareInt py qy) (Go.Lib.compareInt px qx) w2.heap.size _ ?_).mono ?_;(·exact fun k hk=>xM w2 _ _ _ _ rfl k hk);rintro e9 w9 ⟨rfl,rfl⟩;go_wp2_with fail;refine hK.out _ _ (⟨CellsAt.ext z_x S2.out,(G2.out.drew).alloc _⟩) (fun hHeld=> ?_);clear hK K;try simp only[Act.put,z_3,z_4,z_5])
 iterate 1 (refine SeqH.fr2 ?_;try simp only[Act.put,z_3,z_4,z_5])
 refine SeqH.done ?_
 have G:=aA hHeld.2
 clear hHeld
 go_wp2
 go_ret
 exact⟨rfl,G.out⟩
theorem aGe (blk off size:Nat) (w:World):Go.Proofs.CmpLays Tryz.prog 152 #[] fG 2 gM blk off size w:=
 fun _ _ _ _ x y=>aJn x y _
theorem aEt {w:World} {v:Value} {base:Nat} {l:List aB} (h:Own cellE w base 28 v l) (hl:l.length≤1000000):
  Calls Tryz.prog 133 #[v, .func (.func 152) #[] #[]] w fun e w'=>e= .returned (.tuple #[])∧Own cellE w' base 28 v (gB l)∧Touch (fun k=>v.ownBlock=some k) w w':=by
 obtain⟨a,c,rfl⟩:=h.slice
 rcases h.2 with⟨hv,h0⟩|⟨g,cap,cur,hv,hb,hg,_⟩
 ·obtain rfl:l=[]:=List.eq_nil_of_length_eq_zero h0
  exact(Go.Proofs.AnyF.slices_SortFunc_none xA a c _ w).mono fun e w' ⟨he,hw⟩=>⟨he,by rw[hw,show gB []=[] by simp[gB]];exact h,by rw[hw];exact Touch.refl _ _⟩
 ·cases hv
  have eg: ∀args w,(callFunc 152 args).run Tryz.prog w= .ok (.enter 152 args) w:=enters_of Tryz.func152 (by kernel_rfl) rfl
  refine(Go.Proofs.AnyQ.slices_SortFunc_total xA 2 Tryz.isAgg28 Tryz.sizeOf28 fG (fun _=>rfl) (fun x v hv=>by simp[fG]at hv;rcases hv with rfl|rfl<;>rfl) gM yQ 152 #[] g 0 c l.toArray w eg (aGe _ _ _ _) (tI h) (lt_of_block hg) (by simp;omega) sI).mono ?_
  rintro e w' ⟨rfl,n,os,rfl⟩
  have o1:Own cellE (Go.Sort.ahead w n) base 28 (.slice (some ⟨g,0,none⟩) l.length c) l:=h
  have o2:=zT o1 (l':=gB l) (gI l).length_eq
  have t1:Touch (fun k=>k=g) w (Go.Sort.putRowK fG 2 (Go.Sort.ahead w n) g 0 (gB l).toArray):=(lR _ w n).trans (kV _ _ _ _ _)
  refine⟨rfl,o2.touch (fN (fun _=>False) _ os) (fun _ _ x=>x),(t1.trans (fN _ _ os)).mono (fun k _ hk=>by rw[hk];rfl)⟩
def aK3 (w:World) (base:Nat) (v:Value) (L:List aB) (e:Ending) (w':World):Prop:=
 ∃v' L',e= .returned v'∧Own cellE w' base 28 v' L'∧L'.Pairwise ltC∧(∀c,c∈L'↔c∈L)∧Touch (fun k=>v.ownBlock=some k) w w'
theorem vJ {w:World} {v:Value} {base:Nat} {L:List aB} (h:Own cellE w base 28 v L) (hl:L.length≤100000):
  Calls Tryz.prog 97 #[v] w (aK3 w base v L):=by
 have HS:=aA (aEt h (by omega))
 have HL:=aA hl
 obtain⟨a,c,rfl⟩:=h.slice
 clear h hl
 go_enter Tryz.func97,Tryz.ntmps97
 go_wp2_with fail
 refine(HS.out).mono ?_
 rintro e w1 ⟨rfl,o1,t1⟩
 have HC:=aA (qT (by rw[(gI L).length_eq];exact HL.out) (pL L) o1)
 have T1:=aA t1
 clear o1 t1
 go_wp2_with fail
 refine(HC.out).mono ?_
 rintro e w2 ⟨v',L',rfl,o2,hs,hm,t2⟩
 have O2:=aA o2
 have HSS:=aA hs
 have HM:=aA hm
 have T2:=aA t2
 obtain⟨a',c',rfl⟩:=o2.slice
 clear o2 hs hm t2
 go_wp2_with fail
 go_ret
 exact⟨_,L',rfl,O2.out,HSS.out,fun c=>(HM.out c).trans (gI L).mem_iff,T1.out.trans T2.out⟩
def dL (pb:Nat) (W H s:Int) (fa:Option Addr) (n fc:Nat) (gv:Value) (f t:aB):Array Value:=
 #[.pointer (some ⟨pb,0,none⟩), .int .i64 W, .int .i64 H, .slice fa n fc, .int .i64 W, .int .i64 H, .int .i64 s,gv, .int .i64 f.1, .int .i64 f.2, .int .i64 t.1, .int .i64 t.2]
structure HLand (w:World) (lb:Nat) (p:Spot) (R:Nat→Prop) (W H s:Int) (l:List Int) (fa:Option Addr) (fc:Nat) (ga:Option Addr) (gc:Nat) (f t:aB):Prop where
 world:WorldAt w p R W H s l
 blk:Blk w lb 176 (dL p.b W H s fa l.length fc (.slice ga (aD W H s l).length gc) f t)
 row:Row16 w fa l
 gates:Own aS w 0 160 (.slice ga (aD W H s l).length gc) (aD W H s l)
 inF:inB W H f.1 f.2=true
 inT:inB W H t.1 t.2=true
theorem HLand.ext {w w':World} {lb:Nat} {p:Spot} {R:Nat→Prop} {W H s:Int} {l:List Int} {fa:Option Addr} {fc:Nat} {ga:Option Addr} {gc:Nat} {f t:aB} (h:HLand w lb p R W H s l fa fc ga gc f t) (x:Ext w w'):HLand w' lb p R W H s l fa fc ga gc f t where
 world:=h.world.ext x
 blk:=h.blk.ext x
 row:=h.row.ext x
 gates:=h.gates.ext x
 inF:=h.inF
 inT:=h.inT
theorem HLand.good {w:World} {lb:Nat} {p:Spot} {R:Nat→Prop} {W H s:Int} {l:List Int} {fa:Option Addr} {fc:Nat} {ga:Option Addr} {gc:Nat} {f t:aB} (h:HLand w lb p R W H s l fa fc ga gc f t):Good W H s l:=by
 obtain⟨G,T,h1,_⟩:=h.world;exact h1.good
section
variable {w:World} {lb:Nat} {p:Spot} {R:Nat→Prop} {W H s:Int} {l:List Int} {fa:Option Addr} {fc:Nat} {ga:Option Addr} {gc:Nat} {f t:aB}
theorem nZ (h:HLand w lb p R W H s l fa fc ga gc f t) {c:aB} (hc:inB W H c.1 c.2=true):
  Calls Tryz.prog 85 #[.pointer (some ⟨lb,0,none⟩), .agg #[.int .i64 c.1, .int .i64 c.2]] w fun e w'=>e= .returned (.int .i64 (aC W c:Nat))∧Ext w w':=by
 have B:=aA h.blk
 unfold dL at B
 have hb:=inB_true.1 hc
 have hix:((aC W (c.1,c.2):Nat):Int)=c.2*W+c.1:=bN (by omega) (by omega) (by omega)
 have hpm:0≤c.2*W∧c.2*W≤4294967296:=cL (a:=c.2) (b:=W) (A:=65536) (B:=65536) (by omega) (by omega) (by omega) (by omega)
 obtain⟨x,y⟩:=c
 simp only at hb hix hpm
 have k1:IntKind.i64.wrap (y*W)=y*W:=IntWalk.i64_in _ (by omega)
 have k2:IntKind.i64.wrap (y*W+x)=((aC W (x,y):Nat):Int):=by rw[IntWalk.i64_in _ (by omega)];exact hix.symm
 obtain⟨n,hn⟩: ∃z,l.length=z:=⟨_,rfl⟩
 obtain⟨m,hm⟩: ∃z,(aD W H s l).length=z:=⟨_,rfl⟩
 rw[hn,hm]at B
 have b0:=B.out.at 0 rfl;have b1:=B.out.at 1 rfl;have b2:=B.out.at 2 rfl;have b3:=B.out.at 3 rfl;have bz:=B.out.lt
 clear h hc hb hix hpm hn hm
 go_enter Tryz.func85,Tryz.ntmps85
 go_wp2_with fail
 go_quiet (fail)
 go_wp2_with fail
 go_ret
 exact⟨rfl,z_x⟩
theorem oH (h:HLand w lb p R W H s l fa fc ga gc f t) {c:aB} (hc:inB W H c.1 c.2=true):
  Calls Tryz.prog 41 #[.pointer (some ⟨lb,0,none⟩), .agg #[.int .i64 c.1, .int .i64 c.2]] w fun e w'=>e= .returned (.int .u64 (aO l W c))∧Ext w w':=by
 have HNB:=aA (fun(w':World) (x:Ext w w')=>nZ (h.ext x) hc)
 have B:=aA h.blk
 unfold dL at B
 have hlen:(l.length:Int)=W*H:=(checkE_ok.1 h.good.ok).2
 have hik:=jN hlen hc
 obtain⟨rb,ro,hfa,hrb,hrc⟩:=h.row (by omega)
 have d0:=hrc _ hik
 have hcst:l[aC W c]=aO l W c:=by
  unfold aO
  have hb:=inB_true.1 hc
  have hix:((aC W (c.1,c.2):Nat):Int)=c.2*W+c.1:=bN (by omega) (by omega) (by omega)
  have e:(c.2*W+c.1).toNat=aC W c:=by
   have:aC W c=aC W (c.1,c.2):=rfl
   omega
  rw[e,List.getD_eq_getElem?_getD,List.getElem?_eq_getElem hik]
  rfl
 rw[hcst]at d0
 have hu:=h.good.u16 _ (List.getElem_mem hik)
 rw[hcst]at hu
 subst hfa
 obtain⟨x,y⟩:=c
 have hin:(aC W (x,y):Int)<(l.length:Int):=by omega
 have HIK:=aA hik
 simp only at HNB
 generalize aC W (x,y)=ix at *
 generalize aO l W (x,y)=cv at *
 have k1:IntKind.u64.wrap cv=cv:=by rw[IntKind.wrap_u64];omega
 obtain⟨n,hn⟩: ∃z,l.length=z:=⟨_,rfl⟩
 obtain⟨m,hm⟩: ∃z,(aD W H s l).length=z:=⟨_,rfl⟩
 rw[hn,hm]at B
 rw[hn]at hin
 have b0:=B.out.at 0 rfl;have b1:=B.out.at 1 rfl;have b2:=B.out.at 2 rfl;have b3:=B.out.at 3 rfl;have bz:=B.out.lt
 clear h hc hlen hik hrc hcst hu hn hm HIK
 go_enter Tryz.func41,Tryz.ntmps41
 go_wp2_with fail
 obtain⟨w1,hw1⟩: ∃z,z=w.alloc (.cells #[.int .i64 x, .int .i64 y] 28):=⟨_,rfl⟩
 have x1:Ext w w1:=by rw[hw1];exact(Ext.refl _).alloc _
 have C1:=aA (show Blk w1 w.heap.size 28 #[.int .i64 x, .int .i64 y] by rw[hw1];exact Blk.new_ rfl)
 have B1:=aA (B.out.ext x1)
 have d1:=(x1.cell (p:=⟨rb,ro+ix,none⟩) hrb).trans d0
 have z1:=x1.size
 have hrb1:rb<w1.heap.size:=by omega
 rw[←hw1]
 clear hw1 b0 b1 b2 b3 bz d0
 have c0:=C1.out.at 0 rfl;have c1:=C1.out.at 1 rfl;have cz:=C1.out.lt
 have b0:=B1.out.at 0 rfl;have b1:=B1.out.at 1 rfl;have b2:=B1.out.at 2 rfl;have b3:=B1.out.at 3 rfl;have bz:=B1.out.lt
 refine aF (S:=(fun W=>(∀b o,b<w1.heap.size→W.cell? ⟨b,o,none⟩=w1.cell? ⟨b,o,none⟩)∧Ext w1 W)) [(0,true),(1,true),(2,true),(3,true),(4,true),(5,true),(6,true),(7,false),(8,true),(9,true),(10,true),(11,true)] (by kernel_rfl) (by kernel_rfl) (by kernel_rfl) (by decide) (fun _ _ d _ _ h=>by cases d<;>exact h) (by first|with_reducible exact aI _|exact aE z_x) (fun hHeld=> ?_)
 iterate 7 (refine SeqH.fr1 ?_;try simp only[Act.put,z_3,z_4,z_5])
 (apply SeqH.step;(·(simp only[z_0,z_1,z_2];rfl));intro K hK;go_simp;refine(HNB.out _ (x1.trans z_x)).mono ?_;rintro e w2 ⟨rfl,hb2⟩;go_wp2_with fail;refine hK.out _ _ (aE z_x) (fun hHeld=> ?_);clear hK K;try simp only[Act.put,z_3,z_4,z_5])
 iterate 4 (refine SeqH.fr1 ?_;try simp only[Act.put,z_3,z_4,z_5])
 refine SeqH.done ?_
 have XE:=aA hHeld.2
 clear hHeld
 go_wp2_with fail
 go_ret
 exact⟨rfl,x1.trans XE.out⟩
end
end Go.Proofs.YtaellcgglldjaaaGreat

namespace Go.Proofs.YtaellcgglldjaaaGreat
open Go.RowKit
theorem oU (bx byy bw:Int) (j:Nat):((List.range (j+1)).flatMap fun j:Nat=>eY bx bw (byy+(j:Int)))=((List.range j).flatMap fun j:Nat=>eY bx bw (byy+(j:Int)))++eY bx bw (byy+(j:Int)):=by
 rw[List.range_succ,List.flatMap_append];simp
def fK (bx byy bw:Int) (L:List (aB×aB)) (j:Nat):List aB:=((List.range j).flatMap fun j:Nat=>eY bx bw (byy+(j:Int))).filter (gIn L)
def eB (bx y:Int) (L:List (aB×aB)) (i:Nat):List aB:=((List.range i).map fun i:Nat=>(bx+(i:Int),y)).filter (gIn L)
theorem aAw (bx y:Int) (L:List (aB×aB)) (i:Nat):eB bx y L (i+1)=eB bx y L i++if gIn L (bx+(i:Int),y)=true then[(bx+(i:Int),y)] else[]:=by
 unfold eB
 rw[List.range_succ,List.map_append,List.filter_append]
 congr 1
 by_cases h:gIn L (bx+(i:Int),y)=true
 ·simp[h]
 ·simp[h]
theorem rC (bx byy bw:Int) (L:List (aB×aB)) (j:Nat):fK bx byy bw L (j+1)=fK bx byy bw L j++eB bx (byy+(j:Int)) L bw.toNat:=by
 unfold fK eB
 rw[oU,List.filter_append]
 rfl
theorem tO (bx y:Int) (L:List (aB×aB)) (i:Nat):(eB bx y L i).length≤i:=by
 unfold eB
 exact Nat.le_trans (List.length_filter_le _ _) (by simp)
theorem aDk (bx byy bw:Int) (L:List (aB×aB)) (j:Nat):(fK bx byy bw L j).length≤j*bw.toNat:=by
 induction j with
 |zero=>simp[fK]
 |succ j ih=>
  rw[rC,List.length_append,Nat.add_mul,Nat.one_mul]
  have:=tO bx (byy+(j:Int)) L bw.toNat
  omega
theorem vM {L:List (aB×aB)} {k:Nat} {g:aB×aB} (hg:L[k]? =some g) (c:aB):gIn (L.take (k+1)) c=(gIn (L.take k) c||(cB g.1 c||cB g.2 c)):=by
 unfold gIn
 rw[List.take_add_one,hg,List.any_append]
 simp
def yA (w:World) (L:List aB) (e:Ending) (w':World):Prop:= ∃v,e= .returned v∧Ext w w'∧Own cellE w' w.heap.size 28 v L
set_option maxRecDepth 100000 in
set_option maxHeartbeats 2000000 in
theorem xI (L:List (aB×aB)) (v:Value) (bx byy bw bh:Int) (w:World) (hl:L.length≤50000) (hL:Reads aS w v L) (b1:0≤bx∧bx≤1000) (b2:0≤byy∧byy≤1000) (b3:0≤bw∧bw≤1000) (b4:0≤bh∧bh≤1000):
  Calls Tryz.prog 49 #[v, .agg #[.int .i64 bx, .int .i64 byy, .int .i64 bw, .int .i64 bh]] w (yA w (lS bx byy bw bh L)):=by
 have HF:=aA (show lS bx byy bw bh L=fK bx byy bw L bh.toNat from rfl)
 obtain⟨bx0,bx1⟩:=b1
 obtain⟨by0,by1⟩:=b2
 obtain⟨bw0,bw1⟩:=b3
 obtain⟨bh0,bh1⟩:=b4
 obtain⟨m,hm⟩: ∃m:Nat,bw=(m:Int):=⟨bw.toNat,by omega⟩
 obtain⟨n,hn⟩: ∃n:Nat,bh=(n:Int):=⟨bh.toNat,by omega⟩
 subst hm hn
 have hm1:m≤1000:=by omega
 have hn1:n≤1000:=by omega
 rw[Int.toNat_natCast]at HF
 have HA:Hid (0<L.length→ ∃b off c,v= .slice (some ⟨b,off,none⟩) L.length c∧b<w.heap.size∧PairsAt w b off L):=aA (fun hp=>by
  rcases hL with⟨_,rfl⟩|⟨b,off,cap,rfl,hb,hc⟩
  ·simp at hp
  ·exact⟨b,off,cap,rfl,hb,(Reads.pairs (.inr ⟨b,off,cap,rfl,hb,hc⟩)).2⟩)
 obtain⟨a,c,rfl⟩:=hL.slice
 clear hL bw0 bh0 bw1 bh1
 go_enter Tryz.func49,Tryz.ntmps49
 go_wp2_with fail
 have BB:Hid (Blk (w.alloc (.cells #[.int .i64 bx, .int .i64 byy, .int .i64 (m:Int), .int .i64 (n:Int)] 71)) w.heap.size 71 #[.int .i64 bx, .int .i64 byy, .int .i64 (m:Int), .int .i64 (n:Int)]):=aA (Blk.new_ rfl)
 have X1:Hid (Ext w (w.alloc (.cells #[.int .i64 bx, .int .i64 byy, .int .i64 (m:Int), .int .i64 (n:Int)] 71))):=aA z_x
 obtain⟨w1,hw1⟩: ∃w1,w.alloc (.cells #[.int .i64 bx, .int .i64 byy, .int .i64 (m:Int), .int .i64 (n:Int)] 71)=w1:=⟨_,rfl⟩
 have hz1:w.heap.size+1=w1.heap.size:=by rw[←hw1];simp
 obtain⟨h,hh⟩: ∃h,w.heap.size=h:=⟨_,rfl⟩
 rw[hw1]at BB X1⊢
 rw[hh]at BB hz1⊢
 rw[hz1]
 have HZ1:=aA hz1
 clear hw1 hz1 hh
 have OB:Hid (Own cellE (w1.alloc (.cells #[] 28)) w1.heap.size 28 (.slice (some ⟨w1.heap.size,0,none⟩) 0 0) []):=aA (Own.lit0 cellE w1 _ _ _ rfl (Nat.le_refl _))
 have XB:Hid (Ext w1 (w1.alloc (.cells #[] 28))):=aA ((Ext.refl _).alloc _)
 go_loopw [5,6] (fun o y wr=> ∃j:Nat,y= .int .i64 (byy+(j:Int))∧j≤n∧Ext w1 wr∧Own cellE wr w1.heap.size 28 o (fK bx byy (m:Int) L j)) (fun _ y _=>n-(intOf y-byy).toNat)
 case atStart=>exact⟨0,by simp,Nat.zero_le _,XB.out,OB.out⟩
 case round=>
  obtain⟨j,rfl,hj,hx,ho⟩:=hrel
  have HX:=aA hx
  have HO:=aA ho
  have BBr:=aA (BB.out.ext hx)
  have HLj:=aA (aDk bx byy (m:Int) L j)
  have p0:=BBr.out.at 0 rfl;have p1:=BBr.out.at 1 rfl;have p2:=BBr.out.at 2 rfl;have p3:=BBr.out.at 3 rfl;have pz:=BBr.out.lt
  clear hx ho XB OB
  by_cases hlt:j<n
  ·have hlt':byy+(j:Int)<byy+(n:Int):=by omega
   have HRS:=aA (rC bx byy (m:Int) L j)
   rw[Int.toNat_natCast]at HRS
   go_wp2_with fail
   go_loopw [5,7] (fun o x wy=> ∃i:Nat,x= .int .i64 (bx+(i:Int))∧i≤m∧Ext w1 wy∧Own cellE wy w1.heap.size 28 o (fK bx byy (m:Int) L j++eB bx (byy+(j:Int)) L i)) (fun _ x _=>m-(intOf x-bx).toNat)
   case atStart=>exact⟨0,by simp,Nat.zero_le _,HX.out,by simpa [eB] using HO.out⟩
   case round=>
    obtain⟨i,rfl,hi,hx,ho⟩:=hrel
    have HXi:=aA hx
    have HOi:=aA ho
    have BBi:=aA (BB.out.ext hx)
    have hzi:w1.heap.size≤wr.heap.size:=hx.size
    have HLi:=aA (tO bx (byy+(j:Int)) L i)
    have q0:=BBi.out.at 0 rfl;have q1:=BBi.out.at 1 rfl;have q2:=BBi.out.at 2 rfl;have q3:=BBi.out.at 3 rfl;have qz:=BBi.out.lt
    clear hx ho HO HX BBr p0 p1 p2 p3 pz
    by_cases hlti:i<m
    ·have hlti':bx+(i:Int)<bx+(m:Int):=by omega
     have HCS:=aA (aAw bx (byy+(j:Int)) L i)
     go_upto_region 9 with(fail)
     clear q0 q1 q2 q3 qz
     have BC:Hid (Blk (wr.alloc (.cells #[.int .i64 (bx+(i:Int)), .int .i64 (byy+(j:Int))] 28)) wr.heap.size 28 #[.int .i64 (bx+(i:Int)), .int .i64 (byy+(j:Int))]):=aA (Blk.new_ rfl)
     have XC:=aA (show Ext w1 (wr.alloc (.cells #[.int .i64 (bx+(i:Int)), .int .i64 (byy+(j:Int))] 28)) from HXi.out.trans ((Ext.refl _).alloc _))
     have OC:=aA (HOi.out.ext (show Ext wr (wr.alloc (.cells #[.int .i64 (bx+(i:Int)), .int .i64 (byy+(j:Int))] 28)) from(Ext.refl _).alloc _))
     obtain⟨wc,hwc⟩: ∃wc,wr.alloc (.cells #[.int .i64 (bx+(i:Int)), .int .i64 (byy+(j:Int))] 28)=wc:=⟨_,rfl⟩
     obtain⟨g,hg⟩: ∃g,wr.heap.size=g:=⟨_,rfl⟩
     rw[hwc]at BC XC OC⊢
     rw[hg]at BC⊢
     clear hwc hg hzi BBi HXi HOi
     go_wp2_with fail
     go_loopw [9,10] (fun s qv wz=> ∃q:Nat,qv= .int .i64 (q:Int)∧q≤L.length∧s= .bool (gIn (L.take q) (bx+(i:Int),byy+(j:Int)))∧Ext wc wz) (fun _ qv _=>L.length-(intOf qv).toNat)
     case atStart=>exact⟨0,rfl,Nat.zero_le _,by simp[gIn],Ext.refl _⟩
     case round=>
      obtain⟨q,rfl,hq,rfl,hx⟩:=hrel
      have HXq:=aA hx
      have BCr:=aA (BC.out.ext hx)
      have r0:=BCr.out.at 0 rfl;have r1:=BCr.out.at 1 rfl;have rz:=BCr.out.lt
      clear hx
      by_cases hltq:q<L.length
      ·obtain⟨b,off,c',hv,hb,hP⟩:=HA.out (by omega)
       simp only[Value.slice.injEq]at hv
       obtain⟨rfl,_,rfl⟩:=hv
       have hgq:L[q]? =some L[q]:=List.getElem?_eq_getElem hltq
       obtain⟨d0,d1,d2,d3⟩:=hP q hltq
       have XW:=aA ((X1.out.trans XC.out).trans HXq.out)
       have e0:=(XW.out.cell (p:=⟨b,off+q*4,none⟩) hb).trans d0
       have e1:=(XW.out.cell (p:=⟨b,off+q*4+1,none⟩) hb).trans d1
       have e2:=(XW.out.cell (p:=⟨b,off+q*4+2,none⟩) hb).trans d2
       have e3:=(XW.out.cell (p:=⟨b,off+q*4+3,none⟩) hb).trans d3
       obtain⟨u,hu⟩: ∃u,L[q]=u:=⟨_,rfl⟩
       rw[hu]at hgq e0 e1 e2 e3
       obtain⟨⟨ua,ub⟩,⟨uc,ud⟩⟩:=u
       have HTK:=aA (vM hgq (bx+(i:Int),byy+(j:Int)))
       simp only at e0 e1 e2 e3
       have hbz:b<wr.heap.size:=Nat.lt_of_lt_of_le hb XW.out.size
       have hqi:(q:Int)<(L.length:Int):=by omega
       have hA1:=fun(w:World)=>bF (ua,ub) (bx+(i:Int),byy+(j:Int)) w
       have hB1:=fun(w:World)=>bF (uc,ud) (bx+(i:Int),byy+(j:Int)) w
       simp only at hA1 hB1
       clear d0 d1 d2 d3 hP hgq hu
       cases hs:gIn (L.take q) (bx+(i:Int),byy+(j:Int))
       ·rw[hs]at HTK
        cases ha:cB (ua,ub) (bx+(i:Int),byy+(j:Int))
        ·rw[ha]at hA1 HTK
         generalize cB (uc,ud) (bx+(i:Int),byy+(j:Int))=cb at *
         go_wp2_with fail
         refine aF (S:=(fun W=>(∀b o,b<wr.heap.size→W.cell? ⟨b,o,none⟩=wr.cell? ⟨b,o,none⟩)∧Ext wr W)) [(0,true),(1,true),(2,true),(3,true),(4,true),(5,true),(6,true),(7,true),(8,true),(9,true),(10,true),(11,true),(12,true),(13,true),(14,true),(15,true),(16,true),(17,true),(18,true),(19,true)] (by kernel_rfl) (by kernel_rfl) (by kernel_rfl) (by decide) (fun _ _ d _ _ h=>by cases d<;>exact h) (by first|with_reducible exact aI _|exact aE z_x) (fun hHeld=> ?_)
         iterate 20 (refine SeqH.fr1 ?_;try simp only[Act.put,z_3,z_4,z_5])
         refine SeqH.done ?_
         clear hHeld
         go_wp2
         go_roundw
         case rel=>exact⟨q+1,by go_num,by omega,by rw[HTK.out];simp,HXq.out.drew⟩
         case measure=>simp[intOf];omega
        ·rw[ha]at hA1 HTK
         go_wp2_with fail
         refine aF (S:=(fun W=>(∀b o,b<wr.heap.size→W.cell? ⟨b,o,none⟩=wr.cell? ⟨b,o,none⟩)∧Ext wr W)) [(0,true),(1,true),(2,true),(3,true),(4,true),(5,true),(6,true),(7,true),(8,true),(9,true),(10,true),(11,true),(12,true),(13,true),(14,true),(15,true),(16,true),(17,true),(18,true),(19,true)] (by kernel_rfl) (by kernel_rfl) (by kernel_rfl) (by decide) (fun _ _ d _ _ h=>by cases d<;>exact h) (by first|with_reducible exact aI _|exact aE z_x) (fun hHeld=> ?_)
         iterate 20 (refine SeqH.fr1 ?_;try simp only[Act.put,z_3,z_4,z_5])
         refine SeqH.done ?_
         clear hHeld
         go_wp2
         go_roundw
         case rel=>exact⟨q+1,by go_num,by omega,by rw[HTK.out];simp,HXq.out.drew⟩
         case measure=>simp[intOf];omega
       ·rw[hs]at HTK
        go_wp2_with fail
        refine aF (S:=(fun W=>(∀b o,b<wr.heap.size→W.cell? ⟨b,o,none⟩=wr.cell? ⟨b,o,none⟩)∧Ext wr W)) [(0,true),(1,true),(2,true),(3,true),(4,true),(5,true),(6,true),(7,true),(8,true),(9,true),(10,true),(11,true),(12,true),(13,true),(14,true),(15,true),(16,true),(17,true),(18,true),(19,true)] (by kernel_rfl) (by kernel_rfl) (by kernel_rfl) (by decide) (fun _ _ d _ _ h=>by cases d<;>exact h) (by first|with_reducible exact aI _|exact aE z_x) (fun hHeld=> ?_)
        iterate 20 (refine SeqH.fr1 ?_;try simp only[Act.put,z_3,z_4,z_5])
        refine SeqH.done ?_
        clear hHeld
        go_wp2
        go_roundw
        case rel=>exact⟨q+1,by go_num,by omega,by rw[HTK.out];simp,HXq.out.drew⟩
        case measure=>simp[intOf];omega
      ·obtain rfl:q=L.length:=by omega
       rw[List.take_of_length_le (Nat.le_refl _)]
       have XR:=aA (XC.out.trans HXq.out)
       have OR:=aA (OC.out.ext HXq.out)
       have hzr:w1.heap.size≤wr.heap.size:=XR.out.size
       obtain⟨ar,cr,har⟩:=OR.out.slice
       subst har
       have hll:(fK bx byy (m:Int) L j++eB bx (byy+(j:Int)) L i).length≤2000000:=by
        have h1:=HLj.out
        have h2:=HLi.out
        rw[List.length_append]
        rw[Int.toNat_natCast]at h1
        have h3:j*m≤1000*1000:=Nat.mul_le_mul (by omega) hm1
        omega
       cases hs:gIn L (bx+(i:Int),byy+(j:Int))
       ·have HE:=aA (show eB bx (byy+(j:Int)) L (i+1)=eB bx (byy+(j:Int)) L i by rw[HCS.out,hs];simp)
        go_wp2
        go_roundw
        case rel=>exact⟨i+1,by rw[show bx+((i+1:Nat):Int)=bx+(i:Int)+1 by omega],by omega,XR.out,by rw[HE.out];exact OR.out⟩
        case measure=>simp[intOf];omega
       ·have HE:=aA (show fK bx byy (m:Int) L j++eB bx (byy+(j:Int)) L (i+1)=(fK bx byy (m:Int) L j++eB bx (byy+(j:Int)) L i)++[(bx+(i:Int),byy+(j:Int))] by rw[HCS.out,hs,List.append_assoc];simp)
        generalize fK bx byy (m:Int) L j++eB bx (byy+(j:Int)) L i=R at *
        go_wp2_with (at_builtin;refine cU cellE T_cellsG rfl _ _ rfl w1.heap.size _ _ R rfl OR.out (bx+(i:Int),byy+(j:Int)) _ _ rfl _ rfl rfl (by omega) (by omega) (by omega) ?_;intro g9 c9 w9 o9 t9 l9;have O9:=aA o9;have T9:=aA t9;clear o9 t9 l9)
        go_roundw
        case rel=>exact⟨i+1,by rw[show bx+((i+1:Nat):Int)=bx+(i:Int)+1 by omega],by omega,XR.out.of_below (T9.out.to_below (by omega) (fun z hz=>(aG OR.out hz).1)) (Nat.le_refl _),by rw[HE.out];exact O9.out⟩
        case measure=>simp[intOf];omega
    ·obtain rfl:i=m:=by omega
     go_wp2
     go_roundw
     case rel=>exact⟨j+1,by rw[show byy+((j+1:Nat):Int)=byy+(j:Int)+1 by omega],by omega,HXi.out,by rw[HRS.out];exact HOi.out⟩
     case measure=>simp[intOf];omega
  ·obtain rfl:j=n:=by omega
   obtain⟨ao,co,hao⟩:=HO.out.slice
   subst hao
   go_wp2
   go_ret
   exact⟨_,rfl,X1.out.trans HX.out,by rw[HF.out];exact HO.out.lower X1.out.size⟩
theorem mM {w:World} {a:Option Addr} {n c:Nat} {l:List aB} {k:Nat} {q:aB} (h:Reads cellE w (.slice a n c) l) (hk:l[k]? =some q): ∃b off,a=some ⟨b,off,none⟩∧b<w.heap.size∧w.cell? ⟨b,off+k*2,none⟩=some (.int .i64 q.1)∧w.cell? ⟨b,off+k*2+1,none⟩=some (.int .i64 q.2):=by
 rcases h with⟨_,rfl⟩|⟨b,off,cap,hv,hb,hc⟩
 ·simp at hk
 ·cases hv
  refine⟨b,off,rfl,hb,?_,?_⟩
  ·have:=hc k q hk 0 _ rfl
   simpa [cellE] using this
  ·have:=hc k q hk 1 _ rfl
   simpa [cellE,Nat.add_assoc] using this
end Go.Proofs.YtaellcgglldjaaaGreat

