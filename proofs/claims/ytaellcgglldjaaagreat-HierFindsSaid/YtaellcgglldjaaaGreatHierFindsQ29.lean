/- Part of a proof: IntAt HierEb HierA HierB. -/
import Derived.Test.YtaellcgglldjaaaGreatHierFindsQ13
import Derived.Test.YtaellcgglldjaaaGreatHierFindsQ01
import Derived.Test.YtaellcgglldjaaaGreatHierFindsQ22
import Derived.Test.YtaellcgglldjaaaGreatHierFindsQ28
import Derived.Test.YtaellcgglldjaaaGreatHierFindsQ12
import Derived.Test.YtaellcgglldjaaaGreatHierFindsQ11
import Derived.Test.YtaellcgglldjaaaGreatHierFindsQ20
import Derived.Test.YtaellcgglldjaaaGreatHierFindsQ21
import Derived.Test.YtaellcgglldjaaaGreatHierFindsQ10
import Derived.Test.YtaellcgglldjaaaGreatHierFindsQ17
import Derived.Test.YtaellcgglldjaaaGreatHierFindsQ24
import Derived.Test.YtaellcgglldjaaaGreatHierFindsQ16
set_option linter.all false
set_option linter.unusedVariables false
set_option linter.unusedSimpArgs false
namespace Go.Proofs.YtaellcgglldjaaaGreat
open Go.RowKit
theorem aId:cH Tryz.prog 94 3 (.int .i64 0) 1 8:=⟨Tryz.underlying94,by kernel_rfl,rfl,by decide⟩
def IntAt (w:World) (base g c:Nat) (far:Nat→Int) (n:Nat):Prop:=Own intE w base 3 (.slice (some ⟨g,0,none⟩) n c) (bZ far n)
theorem IntAt.lt {w:World} {base g c:Nat} {far:Nat→Int} {n:Nat} (h:IntAt w base g c far n):base≤g∧g<w.heap.size:=aF h rfl
theorem IntAt.touch {S:Nat→Prop} {w w':World} {base g c:Nat} {far:Nat→Int} {n:Nat} (h:IntAt w base g c far n) (t:Touch S w w') (hs: ¬S g):IntAt w' base g c far n:=
 Own.touch h t (fun k hk=>by simp only[Value.ownBlock,Option.some.injEq]at hk;subst hk;exact hs)
theorem IntAt.ext {w w':World} {base g c:Nat} {far:Nat→Int} {n:Nat} (h:IntAt w base g c far n) (t:Ext w w'):IntAt w' base g c far n:=Own.ext h t
theorem IntAt.cell {w:World} {base g c:Nat} {far:Nat→Int} {n:Nat} (h:IntAt w base g c far n) {i:Nat} (hi:i<n):w.cell? ⟨g,i,none⟩=some (.int .i64 (far i))∧w.frozen? ⟨g,i,none⟩=false:=by
 have h':w.ownsRow base 3 1 (.slice (some ⟨g,0,none⟩) n c) (bZ far n).length ((bZ far n).flatMap intE.cells):=h
 rw[cJ]at h'
 refine⟨?_,h'.frozenAt _⟩
 rw[h'.cellAt i (by omega)]
 have:=cM intE (bZ far n) i (far i) (oV far hi) 0 (.int .i64 (far i)) rfl
 simpa [intE] using this
theorem IntAt.turn {w:World} {base g c:Nat} {far:Nat→Int} {n:Nat} (h:IntAt w base g c far n) {i:Nat} (hi:i<n) (x:Int):IntAt (w.setCell ⟨g,i,none⟩ (.int .i64 x)) base g c (bQ far i x) n:=by
 have:=Own.turn (E:=intE) h (i:=i) (by rw[cJ];exact hi) x
 rw[yU]at this
 rw[show i*intE.size=i from Nat.mul_one i]at this
 exact this
theorem IntAt.congr {w:World} {base g c n:Nat} {f f':Nat→Int} (h:IntAt w base g c f n) (e: ∀v,v<n→f v=f' v):IntAt w base g c f' n:=by
 unfold IntAt
 rw[←show bZ f n=bZ f' n from List.map_congr_left fun v hv=>e v (List.mem_range.1 hv)]
 exact h
end Go.Proofs.YtaellcgglldjaaaGreat

namespace Go.Proofs.YtaellcgglldjaaaGreat
open Go.RowKit
theorem aGz (z a b c d e:Value) (hz:z.cells= #[a,b,c,d,e]) (n:Nat):((List.replicate n ()).flatMap fun _=>[a,b,c,d,e])=(madeCells z.cells (n*5)).toList:=by
 unfold madeCells
 rw[hz]
 induction n with
 |zero=>simp
 |succ n ih=>
  rw[List.replicate_succ',List.flatMap_append,ih,show(n+1)*5=n*5+1+1+1+1+1 by omega,Array.range_succ,Array.range_succ,Array.range_succ,Array.range_succ,Array.range_succ]
  simp[show(n*5+1)% 5=1 by omega,show(n*5+1+1)% 5=2 by omega,show(n*5+1+1+1)% 5=3 by omega,show(n*5+1+1+1+1)% 5=4 by omega,show n*5% 5=0 by omega,show(n*5+2)% 5=2 by omega,show(n*5+3)% 5=3 by omega,show(n*5+4)% 5=4 by omega]
theorem sS {ops:Array Oper} {rest:List Oper} {o:Oper} {a:Act} {Q:Exit→Act→World→Prop} {w:World}
  (hg:o.guard=none) (l c:Operand) (hop:o.op=Op.makeSlice 65 l c) (base n:Nat) (hl:a.eval l= .int .i64 (n:Int)) (hc:a.eval c= .int .i64 (n:Int)) (hn:n≤100000) (b4:base≤w.heap.size)
  (hK: ∀g w',g=w.heap.size→Own legE w' base 67 (.slice (some ⟨g,0,none⟩) n n) (List.replicate n ((0,0),(0,0),0))→Ext w w'→wpList Tryz.prog ops Q rest (a.put o.dst (.slice (some ⟨g,0,none⟩) n n)) w'):
  wpList Tryz.prog ops Q (o::rest) a w:=by
 obtain⟨i0,hi,hz0,hz1,hz2⟩:=info_parts T_legs15.info
 have hb:40*n≤281474976710656:=by omega
 refine wpList_make_full w hg l c _ hop base _ i0 _ 5 T_legs15.under hi hz0 hz1 .i64 .i64 _ _ n hl hc rfl rfl (by rw[hz2];exact hb) (by unfold maxLen;omega) b4 ?_
 intro w' hown hgrow
 refine hK w.heap.size w' rfl ?_ ((Ext.refl w).grown hgrow (by simp))
 unfold Own
 rw[List.length_replicate]
 have hf:(List.replicate n (((0,0),(0,0),0):nL)).flatMap legE.cells=(madeCells (Value.agg #[.int .i64 0, .int .i64 0, .int .i64 0, .int .i64 0, .int .u64 0]).cells (n*5)).toList:=by
  rw[←aGz _ (.int .i64 0) (.int .i64 0) (.int .i64 0) (.int .i64 0) (.int .u64 0) rfl]
  clear hown hgrow hb hK hl hc hn
  induction n with
  |zero=>rfl
  |succ n ih=>rw[List.replicate_succ,List.flatMap_cons,ih,List.replicate_succ,List.flatMap_cons];rfl
 rw[hf]
 exact hown
theorem FarAt.congrH {w:World} {base g c n:Nat} {f f':Nat→Int} (h:FarAt w base g c f n) (e: ∀v,v<n→f v=f' v):FarAt w base g c f' n:=by
 unfold FarAt
 rw[←show bZ f n=bZ f' n from List.map_congr_left fun v hv=>e v (List.mem_range.1 hv)]
 exact h
theorem lF (w:World) (g i:Nat) (u:Value):Touch (fun k=>k=g) w (w.setCell ⟨g,i,none⟩ u):=(Touch.refl (fun k=>k=g) w).setCell (p:=⟨g,i,none⟩) (.inl rfl) u
structure RowsH (w:World) (base gs gg gc m:Nat) (v:Nat→Nat) (A:AS) (cm:List nL):Prop where
 st:IntAt w base gs m (fun i=>(A.st (v i):Int)) m
 g:FarAt w base gg m (fun i=>A.g (v i)) m
 came:Own legE w base 67 (.slice (some ⟨gc,0,none⟩) m m) cm
 len:cm.length=m
 ne:gs≠gg∧gs≠gc∧gg≠gc
section
variable {w w':World} {base gs gg gc m:Nat} {v:Nat→Nat} {A:AS} {cm:List nL}
theorem mM {α:Type} {E:Enc α} {t:TypeId} {g n c:Nat} {l:List α} {S:Nat→Prop} (h:Own E w base t (.slice (some ⟨g,0,none⟩) n c) l) (k:Touch S w w') (hs: ¬S g):Own E w' base t (.slice (some ⟨g,0,none⟩) n c) l:=
 Own.touch h k (fun j hj=>by simp only[Value.ownBlock,Option.some.injEq]at hj;subst hj;exact hs)
theorem RowsH.ext (h:RowsH w base gs gg gc m v A cm) (t:Ext w w'):RowsH w' base gs gg gc m v A cm:=⟨h.st.ext t,h.g.ext t,h.came.ext t,h.len,h.ne⟩
theorem RowsH.touch (h:RowsH w base gs gg gc m v A cm) {S:Nat→Prop} (t:Touch S w w') (h1: ¬S gs) (h2: ¬S gg) (h3: ¬S gc):RowsH w' base gs gg gc m v A cm:=⟨h.st.touch t h1,h.g.touch t h2,mM h.came t h3,h.len,h.ne⟩
theorem RowsH.lt (h:RowsH w base gs gg gc m v A cm):(base≤gs∧gs<w.heap.size)∧(base≤gg∧gg<w.heap.size)∧(base≤gc∧gc<w.heap.size):=⟨h.st.lt,h.g.lt,aF h.came rfl⟩
theorem RowsH.settle (h:RowsH w base gs gg gc m v A cm) {j:Nat} (hj:j<m) (inj: ∀i,i<m→v i=v j→i=j):RowsH (w.setCell ⟨gs,j,none⟩ (.int .i64 2)) base gs gg gc m v (A.settle (v j)) cm where
 st:=(h.st.turn hj 2).congr fun i hi=>by
  show bQ _ j 2 i=((bS A.st (v j) 2 (v i):Nat):Int)
  unfold bQ bS
  by_cases e:i=j
  ·subst e;rw[if_pos rfl,if_pos rfl];rfl
  rw[if_neg e,if_neg (fun k=>e (inj i hi k))]
 g:=h.g.touch (S:=fun k=>k=gs) (lF _ gs j _) (fun e=>h.ne.1 e.symm)
 came:=mM (S:=fun k=>k=gs) h.came (lF _ gs j _) (fun e=>h.ne.2.1 e.symm)
 len:=h.len
 ne:=h.ne
theorem RowsH.put (h:RowsH w base gs gg gc m v A cm) {j:Nat} (hj:j<m) (inj: ∀i,i<m→v i=v j→i=j) (x c:Int) (q:nL):RowsH (fD ((w.setCell ⟨gs,j,none⟩ (.int .i64 1)).setCell ⟨gg,j,none⟩ (.int .u64 x)) gc (j*5) (legE.cells q)) base gs gg gc m v (A.put (v j) x c) (cm.set j q) where
 st:=by
  refine IntAt.touch (S:=fun k=>k=gc) (IntAt.touch (S:=fun k=>k=gg) (w:=w.setCell ⟨gs,j,none⟩ (.int .i64 1)) ((h.st.turn hj 1).congr fun i hi=> ?_) (lF _ gg j _) h.ne.1) (cY gc _ _ _) h.ne.2.1
  show bQ _ j 1 i=((bS A.st (v j) 1 (v i):Nat):Int)
  unfold bQ bS
  by_cases e:i=j
  ·subst e;rw[if_pos rfl,if_pos rfl];rfl
  rw[if_neg e,if_neg (fun k=>e (inj i hi k))]
 g:=by
  refine FarAt.touch (S:=fun k=>k=gc) (FarAt.congrH (FarAt.turn (FarAt.touch (S:=fun k=>k=gs) h.g (lF _ gs j _) (fun e=>h.ne.1 e.symm)) hj x) fun i hi=> ?_) (cY gc _ _ _) h.ne.2.2
  show bQ _ j x i=iT A.g (v j) x (v i)
  unfold bQ iT
  by_cases e:i=j
  ·subst e;rw[if_pos rfl,if_pos rfl]
  rw[if_neg e,if_neg (fun k=>e (inj i hi k))]
 came:=Own.turn (mM (S:=fun k=>k=gg) (mM (S:=fun k=>k=gs) h.came (lF _ gs j _) (fun e=>h.ne.2.1 e.symm)) (lF _ gg j _) (fun e=>h.ne.2.2 e.symm)) (by rw[h.len];exact hj) q
 len:=by rw[List.length_set];exact h.len
 ne:=h.ne
theorem RowsH.open1 (h:RowsH w base gs gg gc m v A cm) {j:Nat} (hj:j<m) (B:AS) (hg:B.g=A.g) (hB: ∀i,i<m→B.st (v i)=if i=j then 1 else A.st (v i)):RowsH (w.setCell ⟨gs,j,none⟩ (.int .i64 1)) base gs gg gc m v B cm where
 st:=(h.st.turn hj 1).congr fun i hi=>by
  show bQ _ j 1 i=((B.st (v i):Nat):Int)
  rw[hB i hi]
  unfold bQ
  by_cases e:i=j
  ·rw[if_pos e,if_pos e];rfl
  rw[if_neg e,if_neg e]
 g:=by rw[hg];exact h.g.touch (S:=fun k=>k=gs) (lF _ gs j _) (fun e=>h.ne.1 e.symm)
 came:=mM (S:=fun k=>k=gs) h.came (lF _ gs j _) (fun e=>h.ne.2.1 e.symm)
 len:=h.len
 ne:=h.ne
theorem RowsH.same (h:RowsH w base gs gg gc m v A cm) (B:AS) (hg:B.g=A.g) (hB: ∀i,i<m→B.st (v i)=A.st (v i)):RowsH w base gs gg gc m v B cm where
 st:=h.st.congr fun i hi=>by rw[hB i hi]
 g:=by rw[hg];exact h.g
 came:=h.came
 len:=h.len
 ne:=h.ne
def CameL (W:Int) (N:List aB) (v:Nat→Nat) (s0:Nat) (A:AS) (cm:List nL):Prop:= ∀(i:Nat) (c:aB),N[i]? =some c→A.st (v i)≠0→v i≠s0→ ∃(u:Nat) (x:Int),A.came (v i)=(u:Int)∧cm[i]? =some (aG W u,c,x)
theorem CameL.start {W:Int} {N:List aB} {s0:Nat}:CameL W N v s0 (aY s0) cm:=fun i c _ h2 h3=>by
 exfalso
 apply h2
 show bS (fun _=>0) s0 1 (v i)=0
 rw[fA _ _ h3]
theorem CameL.settle {W:Int} {N:List aB} {s0:Nat} (h:CameL W N v s0 A cm) {u:Nat} (hu:A.st u≠0):CameL W N v s0 (A.settle u) cm:=fun i c h1 h2 h3=>by
 refine h i c h1 (fun e=>h2 ?_) h3
 show bS A.st u 2 (v i)=0
 by_cases k:v i=u
 ·rw[k]at e;exact absurd e hu
 rw[fA _ _ k];exact e
theorem CameL.put {W:Int} {N:List aB} {s0:Nat} (h:CameL W N v s0 A cm) {j:Nat} {c:aB} (hc:N[j]? =some c) (hj:j<cm.length) (inj: ∀i,i<cm.length→v i=v j→i=j) (hl:N.length=cm.length) (x y:Int) (u:Nat):CameL W N v s0 (A.put (v j) x u) (cm.set j (aG W u,c,y)):=fun i d h1 h2 h3=>by
 have hi:i<cm.length:=by rw[←hl];exact(zJ h1).1
 by_cases e:i=j
 ·subst e
  rw[hc]at h1
  cases h1
  exact⟨u,y,wY _ _ _,by rw[List.getElem?_set_self hj]⟩
 have hv:v i≠v j:=fun k=>e (inj i hi k)
 obtain⟨u2,x2,h4,h5⟩:=h i d h1 (fun k=>h2 ((fA _ _ hv).trans k)) h3
 exact⟨u2,x2,(gZ _ _ hv).trans h4,by rw[List.getElem?_set_ne (fun k=>e k.symm)];exact h5⟩
end
end Go.Proofs.YtaellcgglldjaaaGreat

namespace Go.Proofs.YtaellcgglldjaaaGreat
open Go.RowKit
theorem aIr (p q:aB) (w:World):Calls Tryz.prog 152 #[.agg #[.int .i64 p.1, .int .i64 p.2], .agg #[.int .i64 q.1, .int .i64 q.2]] w fun e w'=>e= .returned (.int .i64 (hU p q))∧Grown w w':=by
 obtain⟨px,py⟩:=p
 obtain⟨qx,qy⟩:=q
 have HC:=aA (show hU (px,py) (qx,qy)=orI (Go.Lib.compareInt py qy) (Go.Lib.compareInt px qx) from rfl)
 rw[HC.out]
 simp only
 go_enter Tryz.func152,Tryz.ntmps152
 go_wp2_with fail
 have G2:=aA (((Grown.refl w).alloc (.cells #[.int .i64 px, .int .i64 py] 28)).alloc (.cells #[.int .i64 qx, .int .i64 qy] 28))
 have S2:Hid (CellsAt [(⟨w.heap.size,0,none⟩, .int .i64 px),(⟨w.heap.size,1,none⟩, .int .i64 py),(⟨w.heap.size+1,0,none⟩, .int .i64 qx),(⟨w.heap.size+1,1,none⟩, .int .i64 qy)] ((w.alloc (.cells #[.int .i64 px, .int .i64 py] 28)).alloc (.cells #[.int .i64 qx, .int .i64 qy] 28))):=aA ⟨by simp,by simp,by simp,by simp,trivial⟩
 obtain⟨w2,hw2⟩: ∃w2,(w.alloc (.cells #[.int .i64 px, .int .i64 py] 28)).alloc (.cells #[.int .i64 qx, .int .i64 qy] 28)=w2:=⟨_,rfl⟩
 rw[hw2]at G2 S2⊢
 obtain⟨g,hg⟩: ∃g,w.heap.size=g:=⟨_,rfl⟩
 rw[hg]at S2⊢
 clear hw2 hg HC
 refine bM (S:=(fun X=>CellsAt [(⟨g,0,none⟩, .int .i64 px),(⟨g,1,none⟩, .int .i64 py),(⟨g+1,0,none⟩, .int .i64 qx),(⟨g+1,1,none⟩, .int .i64 qy)] X∧Grown w X)) [(0,true),(1,true),(2,true),(3,true),(5,true),(6,true),(7,true),(8,true),(4,false),(9,false),(10,false),(11,false),(12,true)] (by kernel_rfl) (by kernel_rfl) (by kernel_rfl) (by decide) (fun _ _ d _ _ h=>by cases d<;>exact h) ⟨CellsAt.ext ((Ext.refl _).drew) S2.out,G2.out.drew⟩ (fun hK0=> ?_)
 iterate 8 (refine SeqH.fr2 ?_;try simp only[zz])
 (refine aP ?_;intro K hK;go_simp;refine(mX _ _ _).mono ?_;rintro e9 w9 ⟨rfl,rfl⟩;go_wp2_with fail;refine hK.out _ _ (⟨CellsAt.ext z_x S2.out,G2.out.drew⟩) (fun hK0=> ?_);clear hK K;try simp only[zz])
 (refine aP ?_;intro K hK;go_simp;refine(mX _ _ _).mono ?_;rintro e9 w9 ⟨rfl,rfl⟩;go_wp2_with fail;refine hK.out _ _ (⟨CellsAt.ext z_x S2.out,G2.out.drew⟩) (fun hK0=> ?_);clear hK K;try simp only[zz])
 (refine aP ?_;intro K hK;go_simp;refine hK.out _ _ (⟨CellsAt.ext z_x S2.out,(G2.out.drew).alloc _⟩) (fun hK0=> ?_);clear hK K;try simp only[zz])
 (refine aP ?_;intro K hK;go_simp;refine(aD7 (Go.Lib.compareInt py qy) (Go.Lib.compareInt px qx) w2.heap.size _ ?_).mono ?_;(·exact fun k hk=>aAv w2 _ _ _ _ rfl k hk);rintro e9 w9 ⟨rfl,rfl⟩;go_wp2_with fail;refine hK.out _ _ (⟨CellsAt.ext z_x S2.out,(G2.out.drew).alloc _⟩) (fun hK0=> ?_);clear hK K;try simp only[zz])
 iterate 1 (refine SeqH.fr2 ?_;try simp only[zz])
 refine SeqH.done ?_
 have G:=aA hK0.2
 clear hK0
 go_wp2
 go_ret
 exact⟨rfl,G.out⟩
theorem aFw (blk off size:Nat) (w:World):Go.Proofs.CmpLays Tryz.prog 152 #[] fQ 2 hU blk off size w:=
 fun _ _ _ _ x y=>aIr x y _
theorem aHz {w:World} {v:Value} {base:Nat} {l:List aB} (h:Own cellE w base 28 v l) (hl:l.length≤1000000):
  Calls Tryz.prog 133 #[v, .func (.func 152) #[] #[]] w fun e w'=>e= .returned (.tuple #[])∧Own cellE w' base 28 v (gS l)∧Touch (fun k=>v.ownBlock=some k) w w':=by
 obtain⟨a,c,rfl⟩:=h.slice
 rcases h.2 with⟨hv,h0⟩|⟨g,cap,cur,hv,hb,hg,_⟩
 ·obtain rfl:l=[]:=List.eq_nil_of_length_eq_zero h0
  exact(Go.Proofs.AnyF.slices_SortFunc_none xR a c _ w).mono fun e w' ⟨he,hw⟩=>⟨he,by rw[hw,show gS []=[] by simp[gS]];exact h,by rw[hw];exact Touch.refl _ _⟩
 cases hv
 have eg: ∀args w,(callFunc 152 args).run Tryz.prog w= .ok (.enter 152 args) w:=enters_of Tryz.func152 (by kernel_rfl) rfl
 refine(Go.Proofs.AnyQ.slices_SortFunc_total xR 2 Tryz.isAgg28 Tryz.sizeOf28 fQ (fun _=>rfl) (fun x v hv=>by simp[fQ]at hv;rcases hv with rfl|rfl<;>rfl) hU yI 152 #[] g 0 c l.toArray w eg (aFw _ _ _ _) (tQ h) (lt_of_block hg) (by simp;omega) tB).mono ?_
 rintro e w' ⟨rfl,n,os,rfl⟩
 have o1:Own cellE (Go.Sort.ahead w n) base 28 (.slice (some ⟨g,0,none⟩) l.length c) l:=h
 have o2:=zW o1 (l':=gS l) (gT l).length_eq
 have t1:Touch (fun k=>k=g) w (Go.Sort.putRowK fQ 2 (Go.Sort.ahead w n) g 0 (gS l).toArray):=(mP _ w n).trans (lP _ _ _ _ _)
 refine⟨rfl,o2.touch (fY (fun _=>False) _ os) (fun _ _ x=>x),(t1.trans (fY _ _ os)).mono (fun k _ hk=>by rw[hk];rfl)⟩
def aKs (w:World) (base:Nat) (v:Value) (L:List aB) (e:Ending) (w':World):Prop:=
 ∃v' L',e= .returned v'∧Own cellE w' base 28 v' L'∧L'.Pairwise ltC∧(∀c,c∈L'↔c∈L)∧Touch (fun k=>v.ownBlock=some k) w w'
theorem aH8 {w:World} {v:Value} {base:Nat} {L:List aB} (h:Own cellE w base 28 v L) (hl:L.length≤100000):
  Calls Tryz.prog 97 #[v] w (aKs w base v L):=by
 have HS:=aA (aHz h (by omega))
 have HL:=aA hl
 obtain⟨a,c,rfl⟩:=h.slice
 clear h hl
 go_enter Tryz.func97,Tryz.ntmps97
 go_wp2_with fail
 refine(HS.out).mono ?_
 rintro e w1 ⟨rfl,o1,t1⟩
 have HC:=aA (rH (by rw[(gT L).length_eq];exact HL.out) (qQ L) o1)
 have T1:=aA t1
 clear o1 t1
 go_wp2_with fail
 refine(HC.out).mono ?_
 rintro e w2 ⟨v',L',rfl,o2,hs,hm,t2⟩
 have O2:=aA o2
 have HSS:=aA hs
 have HM:=aA hm
 have T2:=aA t2
 obtain⟨a',c',rfl⟩:=o2.slice
 clear o2 hs hm t2
 go_wp2_with fail
 go_ret
 exact⟨_,L',rfl,O2.out,HSS.out,fun c=>(HM.out c).trans (gT L).mem_iff,T1.out.trans T2.out⟩
def eJ (pb:Nat) (W H s:Int) (fa:Option Addr) (n fc:Nat) (gv:Value) (f t:aB):Array Value:=
 #[.pointer (some ⟨pb,0,none⟩), .int .i64 W, .int .i64 H, .slice fa n fc, .int .i64 W, .int .i64 H, .int .i64 s,gv, .int .i64 f.1, .int .i64 f.2, .int .i64 t.1, .int .i64 t.2]
structure HLand (w:World) (lb:Nat) (p:Spot) (R:Nat→Prop) (W H s:Int) (l:List Int) (fa:Option Addr) (fc:Nat) (ga:Option Addr) (gc:Nat) (f t:aB):Prop where
 world:WorldAt w p R W H s l
 blk:Blk w lb 176 (eJ p.b W H s fa l.length fc (.slice ga (aD W H s l).length gc) f t)
 row:Row16 w fa l
 gates:Own aT w 0 160 (.slice ga (aD W H s l).length gc) (aD W H s l)
 inF:inB W H f.1 f.2=true
 inT:inB W H t.1 t.2=true
theorem HLand.ext {w w':World} {lb:Nat} {p:Spot} {R:Nat→Prop} {W H s:Int} {l:List Int} {fa:Option Addr} {fc:Nat} {ga:Option Addr} {gc:Nat} {f t:aB} (h:HLand w lb p R W H s l fa fc ga gc f t) (x:Ext w w'):HLand w' lb p R W H s l fa fc ga gc f t where
 world:=h.world.ext x
 blk:=h.blk.ext x
 row:=h.row.ext x
 gates:=h.gates.ext x
 inF:=h.inF
 inT:=h.inT
theorem HLand.good {w:World} {lb:Nat} {p:Spot} {R:Nat→Prop} {W H s:Int} {l:List Int} {fa:Option Addr} {fc:Nat} {ga:Option Addr} {gc:Nat} {f t:aB} (h:HLand w lb p R W H s l fa fc ga gc f t):Good W H s l:=by
 obtain⟨G,T,h1,_⟩:=h.world;exact h1.good
section
variable {w:World} {lb:Nat} {p:Spot} {R:Nat→Prop} {W H s:Int} {l:List Int} {fa:Option Addr} {fc:Nat} {ga:Option Addr} {gc:Nat} {f t:aB}
theorem pC (h:HLand w lb p R W H s l fa fc ga gc f t) {c:aB} (hc:inB W H c.1 c.2=true):
  Calls Tryz.prog 85 #[.pointer (some ⟨lb,0,none⟩), .agg #[.int .i64 c.1, .int .i64 c.2]] w fun e w'=>e= .returned (.int .i64 (aC W c:Nat))∧Ext w w':=by
 have B:=aA h.blk
 unfold eJ at B
 have hb:=inB_true.1 hc
 have hix:((aC W (c.1,c.2):Nat):Int)=c.2*W+c.1:=bT (by omega) (by omega) (by omega)
 have hpm:0≤c.2*W∧c.2*W≤4294967296:=cN (a:=c.2) (b:=W) (A:=65536) (B:=65536) (by omega) (by omega) (by omega) (by omega)
 obtain⟨x,y⟩:=c
 simp only at hb hix hpm
 have k1:IntKind.i64.wrap (y*W)=y*W:=IntWalk.i64_in _ (by omega)
 have k2:IntKind.i64.wrap (y*W+x)=((aC W (x,y):Nat):Int):=by rw[IntWalk.i64_in _ (by omega)];exact hix.symm
 obtain⟨n,hn⟩: ∃z,l.length=z:=⟨_,rfl⟩
 obtain⟨m,hm⟩: ∃z,(aD W H s l).length=z:=⟨_,rfl⟩
 rw[hn,hm]at B
 have b0:=B.out.at 0 rfl;have b1:=B.out.at 1 rfl;have b2:=B.out.at 2 rfl;have b3:=B.out.at 3 rfl;have bz:=B.out.lt
 clear h hc hb hix hpm hn hm
 go_enter Tryz.func85,Tryz.ntmps85
 go_wp2_with fail
 go_quiet (fail)
 go_wp2_with fail
 go_ret
 exact⟨rfl,z_x⟩
theorem oR (h:HLand w lb p R W H s l fa fc ga gc f t) {c:aB} (hc:inB W H c.1 c.2=true):
  Calls Tryz.prog 41 #[.pointer (some ⟨lb,0,none⟩), .agg #[.int .i64 c.1, .int .i64 c.2]] w fun e w'=>e= .returned (.int .u64 (aL l W c))∧Ext w w':=by
 have HNB:=aA (fun(w':World) (x:Ext w w')=>pC (h.ext x) hc)
 have B:=aA h.blk
 unfold eJ at B
 have hlen:(l.length:Int)=W*H:=(checkE_ok.1 h.good.ok).2
 have hik:=iW hlen hc
 obtain⟨rb,ro,hfa,hrb,hrc⟩:=h.row (by omega)
 have d0:=hrc _ hik
 have hcst:l[aC W c]=aL l W c:=by
  unfold aL
  have hb:=inB_true.1 hc
  have hix:((aC W (c.1,c.2):Nat):Int)=c.2*W+c.1:=bT (by omega) (by omega) (by omega)
  have e:(c.2*W+c.1).toNat=aC W c:=by
   have:aC W c=aC W (c.1,c.2):=rfl
   omega
  rw[e,List.getD_eq_getElem?_getD,zG hik]
  rfl
 rw[hcst]at d0
 have hu:=h.good.u16 _ (List.getElem_mem hik)
 rw[hcst]at hu
 subst hfa
 obtain⟨x,y⟩:=c
 have hin:(aC W (x,y):Int)<(l.length:Int):=by omega
 have HIK:=aA hik
 simp only at HNB
 generalize aC W (x,y)=ix at *
 generalize aL l W (x,y)=cv at *
 have k1:IntKind.u64.wrap cv=cv:=by rw[IntKind.wrap_u64];omega
 obtain⟨n,hn⟩: ∃z,l.length=z:=⟨_,rfl⟩
 obtain⟨m,hm⟩: ∃z,(aD W H s l).length=z:=⟨_,rfl⟩
 rw[hn,hm]at B
 rw[hn]at hin
 have b0:=B.out.at 0 rfl;have b1:=B.out.at 1 rfl;have b2:=B.out.at 2 rfl;have b3:=B.out.at 3 rfl;have bz:=B.out.lt
 clear h hc hlen hik hrc hcst hu hn hm HIK
 go_enter Tryz.func41,Tryz.ntmps41
 go_wp2_with fail
 obtain⟨w1,hw1⟩: ∃z,z=w.alloc (.cells #[.int .i64 x, .int .i64 y] 28):=⟨_,rfl⟩
 have x1:Ext w w1:=by rw[hw1];exact(Ext.refl _).alloc _
 have C1:=aA (show Blk w1 w.heap.size 28 #[.int .i64 x, .int .i64 y] by rw[hw1];exact Blk.new_ rfl)
 have B1:=aA (B.out.ext x1)
 have d1:=(x1.cell (p:=⟨rb,ro+ix,none⟩) hrb).trans d0
 have z1:=x1.size
 have hrb1:rb<w1.heap.size:=by omega
 rw[←hw1]
 clear hw1 b0 b1 b2 b3 bz d0
 have c0:=C1.out.at 0 rfl;have c1:=C1.out.at 1 rfl;have cz:=C1.out.lt
 have b0:=B1.out.at 0 rfl;have b1:=B1.out.at 1 rfl;have b2:=B1.out.at 2 rfl;have b3:=B1.out.at 3 rfl;have bz:=B1.out.lt
 refine aS w1 [(0,true),(1,true),(2,true),(3,true),(4,true),(5,true),(6,true),(7,false),(8,true),(9,true),(10,true),(11,true)] (fun hK0=> ?_)
 iterate 7 (refine SeqH.fr1 ?_;try simp only[zz])
 (refine aP ?_;intro K hK;go_simp;refine(HNB.out _ (x1.trans z_x)).mono ?_;rintro e w2 ⟨rfl,hb2⟩;go_wp2_with fail;refine hK.out _ _ (aI z_x) (fun hK0=> ?_);clear hK K;try simp only[zz])
 iterate 4 (refine SeqH.fr1 ?_;try simp only[zz])
 refine SeqH.done ?_
 have XE:=aA hK0.2
 clear hK0
 go_wp2_with fail
 go_ret
 exact⟨rfl,x1.trans XE.out⟩
end
end Go.Proofs.YtaellcgglldjaaaGreat

namespace Go.Proofs.YtaellcgglldjaaaGreat
open Go.RowKit
section
variable {w:World} {lb:Nat} {p:Spot} {R:Nat→Prop} {W H s:Int} {l:List Int} {fa:Option Addr} {fc:Nat} {ga:Option Addr} {gc:Nat} {f t:aB}
end
theorem zV (w:World) (base b:Nat) (f t:aB) (hb:b=w.heap.size) (hbase:base≤b):Own cellE (w.alloc (.cells #[.int .i64 f.1, .int .i64 f.2, .int .i64 t.1, .int .i64 t.2] 28)) base 28 (.slice (some ⟨b,0,none⟩) 2 2) [f,t]:=by
 subst hb
 exact⟨by simp[cellE], .inr ⟨w.heap.size,2, #[.int .i64 f.1, .int .i64 f.2, .int .i64 t.1, .int .i64 t.2],rfl,hbase,heap_alloc_new w _,by simp,by decide,by simp[cellE],by simp[cellE]⟩⟩
def aM4 (w:World) (p:Spot) (R:Nat→Prop) (W H s:Int) (l:List Int) (f t:aB) (more:List aB) (e:Ending) (w':World):Prop:=
 ((((f::t::more).all fun c=>inB W H c.1 c.2)=false)∧e= .returned (.tuple #[.pointer none, .int .i64 10])∧Ext w w')∨
 ((((f::t::more).all fun c=>inB W H c.1 c.2)=true)∧ ∃lb fa fc ga gc,e= .returned (.tuple #[.pointer (some ⟨lb,0,none⟩), .int .i64 0])∧Ext w w'∧HLand w' lb p R W H s l fa fc ga gc f t)
set_option maxRecDepth 100000 in
set_option maxHeartbeats 1000000 in
theorem aJj {w:World} {p:Spot} {R:Nat→Prop} {W H s:Int} {l:List Int} (h:WorldAt w p R W H s l) (f t:aB) (more:List aB) (ma:Option Addr) (mc:Nat) (hm:Reads cellE w (.slice ma more.length mc) more) (hml:more.length≤1000):
  Calls Tryz.prog 40 #[.pointer (some ⟨p.b,0,none⟩), .agg #[.int .i64 f.1, .int .i64 f.2], .agg #[.int .i64 t.1, .int .i64 t.2], .slice ma more.length mc] w (aM4 w p R W H s l f t more):=by
 have HW:=aA h
 have HP:=aA (fun(w':World) (x:Ext w w')=>(by obtain⟨G,T,h1,_⟩:=h.ext x;exact aC1 h1:Calls Tryz.prog 18 #[.pointer (some ⟨p.b,0,none⟩)] w' fun e w''=>e= .returned (.agg #[.int .i64 W, .int .i64 H, .int .i64 s])∧Ext w' w''))
 have HFd:=aA (fun(w':World) (x:Ext w w')=>(by obtain⟨G,T,h1,_⟩:=h.ext x;exact aC0 h1:Calls Tryz.prog 84 #[.pointer (some ⟨p.b,0,none⟩)] w' (sB w' W H l)))
 have HGa:=aA (fun(w':World) (x:Ext w w')=>(by obtain⟨G,T,h1,h3⟩:=h.ext x;exact rR h1 h3.gates:Calls Tryz.prog 29 #[.pointer (some ⟨p.b,0,none⟩)] w' (vF w' (aD W H s l))))
 have HMR:=aA hm
 obtain⟨k0,hk0⟩: ∃z,more.length=z:=⟨_,rfl⟩
 have LM:=aA hk0
 rw[hk0]at HMR hml⊢
 obtain⟨pb,hpb⟩: ∃z,p.b=z:=⟨_,rfl⟩
 have HPB:=aA hpb
 rw[hpb]at HP HFd HGa⊢
 clear h hm hk0 hpb
 obtain⟨fx,fy⟩:=f
 obtain⟨tx,ty⟩:=t
 simp only
 go_enter Tryz.func40,Tryz.ntmps40
 go_upto_region 3 with(fail)
 obtain⟨w1,hw1⟩: ∃z,z=(w.alloc (.cells #[.int .i64 fx, .int .i64 fy] 28)).alloc (.cells #[.int .i64 tx, .int .i64 ty] 28):=⟨_,rfl⟩
 have X1:=aA (show Ext w w1 by rw[hw1];exact((Ext.refl _).alloc _).alloc _)
 have F1:=aA (show Blk w1 w.heap.size 28 #[.int .i64 fx, .int .i64 fy] by rw[hw1];exact(Blk.new_ rfl).over)
 have T1:=aA (show Blk w1 (w.heap.size+1) 28 #[.int .i64 tx, .int .i64 ty] by rw[hw1];exact Blk.new_ (by simp))
 rw[←hw1]
 clear hw1
 have c0:=F1.out.at 0 rfl;have c1:=F1.out.at 1 rfl;have cz:=F1.out.lt
 have d0:=T1.out.at 0 rfl;have d1:=T1.out.at 1 rfl;have dz:=T1.out.lt
 refine aS w1 [(0,true),(1,true),(3,true),(5,true),(7,true),(8,true),(2,false),(4,false),(6,false),(9,true),(10,false),(11,true)] (fun hK0=> ?_)
 iterate 6 (refine SeqH.fr1 ?_;try simp only[zz])
 (refine aP ?_;intro K hK;go_simp;refine(HFd.out _ (X1.out.trans z_x)).mono ?_;rintro e w3 ⟨fa,fc,rfl,x3,o3⟩;have O3:=aA o3;clear o3;go_wp2_with fail;refine hK.out _ _ (aI z_x) (fun hK0=> ?_);clear hK K;try simp only[zz])
 (refine aP ?_;intro K hK;go_simp;refine(HP.out _ (X1.out.trans z_x)).mono ?_;rintro e w4 ⟨rfl,x4⟩;go_wp2_with fail;refine hK.out _ _ (aI z_x) (fun hK0=> ?_);clear hK K;try simp only[zz])
 (refine aP ?_;intro K hK;go_simp;refine(HGa.out _ (X1.out.trans z_x)).mono ?_;rintro e w5 ⟨v5,rfl,x5,o5⟩;obtain⟨ga,gc,rfl⟩:=o5.slice;have O5:=aA o5;have O3c:=aA ((O3.out.ext x4).ext x5);have X5:=aA (show Ext w1 w5 from z_x);clear o5;go_wp2_with fail;refine hK.out _ _ (aI z_x) (fun hK0=> ?_);clear hK K;try simp only[zz])
 iterate 1 (refine SeqH.fr1 ?_;try simp only[zz])
 (refine aP ?_;intro K hK;go_simp;refine hK.out _ _ (aI z_x) (fun hK0=> ?_);clear hK K;try simp only[zz])
 iterate 1 (refine SeqH.fr1 ?_;try simp only[zz])
 refine SeqH.done ?_
 obtain⟨w6,hw6⟩: ∃z,z=w5.alloc (.cells #[.pointer (some ⟨pb,0,none⟩), .int .i64 W, .int .i64 H, .slice fa l.length fc, .int .i64 W, .int .i64 H, .int .i64 s, .slice ga (aD W H s l).length gc, .int .i64 fx, .int .i64 fy, .int .i64 tx, .int .i64 ty] 176):=⟨_,rfl⟩
 have x6:Ext w5 w6:=by rw[hw6];exact(Ext.refl _).alloc _
 have B6:=aA (show Blk w6 w5.heap.size 176 #[.pointer (some ⟨pb,0,none⟩), .int .i64 W, .int .i64 H, .slice fa l.length fc, .int .i64 W, .int .i64 H, .int .i64 s, .slice ga (aD W H s l).length gc, .int .i64 fx, .int .i64 fy, .int .i64 tx, .int .i64 ty] by rw[hw6];exact Blk.new_ rfl)
 have X6:=aA ((X1.out.trans X5.out).trans x6)
 have O3d:=aA (O3c.out.ext x6)
 have O5d:=aA (O5.out.ext x6)
 have F6:=aA (F1.out.ext (X5.out.trans x6))
 have T6:=aA (T1.out.ext (X5.out.trans x6))
 rw[←hw6]
 obtain⟨lb,hlb⟩: ∃z,w5.heap.size=z:=⟨_,rfl⟩
 rw[hlb]at B6⊢
 clear hK0 hw6 x6 x3 x4 x5 O3 O3c O5 c0 c1 cz d0 d1 dz hlb F1 T1 X1 X5
 have c0:=F6.out.at 0 rfl;have c1:=F6.out.at 1 rfl;have cz:=F6.out.lt
 have d0:=T6.out.at 0 rfl;have d1:=T6.out.at 1 rfl;have dz:=T6.out.lt
 obtain⟨C,hC⟩: ∃z,[(fx,fy),(tx,ty)]++more=z:=⟨_,rfl⟩
 have HC:=aA (show(fx,fy)::(tx,ty)::more=C from hC)
 have HKL:=aA hC
 obtain⟨k1,hk1⟩: ∃z,C.length=z:=⟨_,rfl⟩
 have LC:=aA hk1
 have hk1b:k1≤1002:=by rw[←hk1,←hC,List.length_append,LM.out];simp;omega
 have hk1p:2≤k1:=by rw[←hk1,←hC,List.length_append];simp
 clear hC hk1
 go_wp2_with (at_builtin;refine cO cellE T_cells rfl _ _ rfl w6.heap.size _ [(fx,fy),(tx,ty)] more rfl (zV w6 _ _ (fx,fy) (tx,ty) rfl (Nat.le_refl _)) _ rfl (HMR.out.ext (X6.out.trans ((Ext.refl _).alloc _))) (by rw[LM.out];simp;omega) (by rw[LM.out];simp;omega) (by simp) ?_;intro v9 w9 o9 t9 l9;obtain⟨va,vc,rfl⟩:=o9.slice;rw[HKL.out,LC.out]at o9⊢;have O9:=aA o9;have X9:=aA (((Ext.refl w6).alloc (.cells #[.int .i64 fx, .int .i64 fy, .int .i64 tx, .int .i64 ty] 28)).of_below (t9.to_below (B:=w6.heap.size) (by simp) (fun k hk=>by cases hk;exact Nat.le_refl _)) (Nat.le_refl _));clear o9 t9 l9)
 have B9:=aA (B6.out.ext X9.out)
 have X9w:=aA (X6.out.trans X9.out)
 have O3e:=aA (O3d.out.ext X9.out)
 have O5e:=aA (O5d.out.ext X9.out)
 clear c0 c1 cz d0 d1 dz F6 T6 B6 X6 O3d O5d X9
 go_loopw [32] (fun iv wr=> ∃k:Nat,k≤k1∧iv= .int .i64 (k:Int)∧((C.take k).all fun c=>inB W H c.1 c.2)=true∧Ext w9 wr) (fun iv _=>k1-(intOf iv).toNat)
 case atStart=>exact⟨0,Nat.zero_le _,rfl,rfl,Ext.refl _⟩
 obtain⟨k,hk,rfl,hall,hx⟩:=hrel
 have HALL:=aA hall
 have XR:=aA hx
 clear hall hx
 by_cases hlt:k<k1
 ·have hkl:k<C.length:=by rw[LC.out];exact hlt
  obtain⟨rb,ro,hre,hrb,q0,q1⟩:=nE (O9.out.reads.ext XR.out) (zG hkl)
  subst hre
  have HTK:Hid (((C.take (k+1)).all fun c=>inB W H c.1 c.2)=(((C.take k).all fun c=>inB W H c.1 c.2)&&inB W H C[k].1 C[k].2)):=aA (by
   rw[List.take_add_one,zG hkl,List.all_append]
   simp)
  have HAL:=aA (fun(h:inB W H C[k].1 C[k].2=false)=>(show(C.all fun c=>inB W H c.1 c.2)=false from by
   rw[Bool.eq_false_iff]
   intro h2
   have:=List.all_eq_true.1 h2 C[k] (List.getElem_mem hkl)
   rw[h]at this
   cases this))
  generalize C[k]=pc at *
  obtain⟨px,py⟩:=pc
  simp only at q0 q1 HTK HAL
  have jk:(k:Int)<(k1:Int):=by omega
  go_upto_region 7 with(fail)
  obtain⟨wc,hwc⟩: ∃z,z=wr.alloc (.cells #[.int .i64 px, .int .i64 py] 28):=⟨_,rfl⟩
  have xc:Ext wr wc:=by rw[hwc];exact(Ext.refl _).alloc _
  have BC:=aA (show Blk wc wr.heap.size 28 #[.int .i64 px, .int .i64 py] by rw[hwc];exact Blk.new_ rfl)
  have XC:=aA (XR.out.trans xc)
  have BL:=aA (B9.out.ext XC.out)
  rw[←hwc]
  clear hwc xc hkl q0 q1
  have c0:=BC.out.at 0 rfl;have c1:=BC.out.at 1 rfl;have cz:=BC.out.lt
  have y0:=BL.out.at 0 rfl;have y1:=BL.out.at 1 rfl;have y2:=BL.out.at 2 rfl;have y3:=BL.out.at 3 rfl;have y4:=BL.out.at 4 rfl;have y5:=BL.out.at 5 rfl;have y6:=BL.out.at 6 rfl;have y7:=BL.out.at 7 rfl;have y8:=BL.out.at 8 rfl;have y9:=BL.out.at 9 rfl;have y10:=BL.out.at 10 rfl;have y11:=BL.out.at 11 rfl;have yz:=BL.out.lt
  have HIN:=aA (fun w'=>gK W H px py w')
  generalize inB W H px py=ib at *
  refine aS wc [(0,true),(1,true),(2,true),(3,true),(4,true),(5,true),(6,false),(7,true)] (fun hK0=> ?_)
  iterate 6 (refine SeqH.fr1 ?_;try simp only[zz])
  (refine aP ?_;intro K hK;go_simp;refine(HIN.out _).mono ?_;rintro e w10 ⟨rfl,hb10⟩;go_wp2_with fail;refine hK.out _ _ (aI z_x) (fun hK0=> ?_);clear hK K;try simp only[zz])
  iterate 1 (refine SeqH.fr1 ?_;try simp only[zz])
  refine SeqH.done ?_
  have XE:=aA hK0.2
  clear hK0
  cases ib
  ·go_wp2_with fail
   refine bodyPost_ret (v:= .tuple #[.pointer none, .int .i64 10]) (by simp[results,Tryz.results40,go_sem, *]) rfl ?_
   exact .inl ⟨by rw[HC.out];exact HAL.out (by first|rfl|trivial),rfl,X9w.out.trans (XC.out.trans XE.out)⟩
  go_wp2_with fail
  go_roundw
  case rel=>exact⟨k+1,by omega,by go_num,by rw[HTK.out,HALL.out];rfl,XC.out.trans XE.out⟩
  simp[intOf];omega
 obtain rfl:k1=k:=by omega
 rw[List.take_of_length_le (by rw[LC.out];exact Nat.le_refl _)]at HALL
 go_wp2_with fail
 refine bodyPost_ret (v:= .tuple #[.pointer (some ⟨lb,0,none⟩), .int .i64 0]) (by simp[results,Tryz.results40,go_sem, *]) rfl ?_
 have hall:(((fx,fy)::(tx,ty)::more).all fun c=>inB W H c.1 c.2)=true:=by rw[HC.out];exact HALL.out
 refine .inr ⟨hall,lb,fa,fc,ga,gc,rfl,X9w.out.trans XR.out,?_⟩
 exact {
  world:=HW.out.ext (X9w.out.trans XR.out)
  blk:=by unfold eJ;rw[HPB.out];exact B9.out.ext XR.out
  row:=(uB O3e.out).ext XR.out
  gates:=(O5e.out.ext XR.out).lower (Nat.zero_le _)
  inF:=List.all_eq_true.1 hall (fx,fy) (by simp)
  inT:=List.all_eq_true.1 hall (tx,ty) (by simp)}
end Go.Proofs.YtaellcgglldjaaaGreat

