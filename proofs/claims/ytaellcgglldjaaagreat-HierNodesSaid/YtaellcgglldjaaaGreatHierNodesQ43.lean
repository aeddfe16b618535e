/- Part of a proof: HierY HierZ HierLa HierV TurnP RefO. -/
import Derived.Test.YtaellcgglldjaaaGreatHierNodesQ42
import Derived.Test.YtaellcgglldjaaaGreatHierNodesQ25
import Derived.Test.YtaellcgglldjaaaGreatHierNodesQ40
import Derived.Test.YtaellcgglldjaaaGreatHierNodesQ21
import Derived.Test.YtaellcgglldjaaaGreatHierNodesQ07
import Derived.Test.YtaellcgglldjaaaGreatHierNodesQ19
import Derived.Test.YtaellcgglldjaaaGreatHierNodesQ12
import Derived.Deep.CutBlock
set_option linter.all false
set_option linter.unusedVariables false
set_option linter.unusedSimpArgs false
namespace Go.Proofs.YtaellcgglldjaaaGreat
open Go.RowKit
set_option maxRecDepth 100000 in
theorem aI1 {w:World} (W H:Int) (a:Option Addr) (n c:Nat) (s:Int):
  Calls Tryz.prog 33 #[.agg #[.int .i64 W, .int .i64 H, .slice a n c], .int .i64 s] w fun e w'=>e= .returned (.int .i64 (iC W H n s))∧Ext w w':=by
 have H1:=aA (fun w'=>zO W H a n c w')
 have H2:=aA (fun w'=>aD6 W H s w')
 by_cases h0:aT W H n=0
 ·rw[h0]at H1
  by_cases h1:aJ W H s=true
  ·rw[h1]at H2
   have he:iC W H n s=0:=by unfold iC;rw[if_pos h0,if_pos h1]
   rw[he]
   clear h0 h1 he
   go_enter Tryz.func33,Tryz.ntmps33
   go_wp2_with (first
    |(go_at_call 74;refine(H1.out _).mono ?_;rintro e w1 ⟨rfl,hb1⟩;obtain⟨hc1,hf1⟩:=hb1.cells;have hz1:=hb1.size;(repeat(first|rw[World.size_alloc]at hz1|rw[World.size_drew]at hz1));have z1_0:w.heap.size<w1.heap.size:=(by omega))
    |(go_at_call 75;refine(H2.out _).mono ?_;rintro e w2 ⟨rfl,hb2⟩;obtain⟨hc2,hf2⟩:=hb2.cells;have hz2:=hb2.size;(repeat(first|rw[World.size_alloc]at hz2|rw[World.size_drew]at hz2));have z2_0:w.heap.size<w2.heap.size:=(by omega)))
   go_ret
   exact⟨rfl,z_x⟩
  ·have h1:aJ W H s=false:=by simpa using h1
   rw[h1]at H2
   have he:iC W H n s=10:=by unfold iC;rw[if_pos h0,if_neg (by rw[h1];simp)]
   rw[he]
   clear h0 h1 he
   go_enter Tryz.func33,Tryz.ntmps33
   go_wp2_with (first
    |(go_at_call 74;refine(H1.out _).mono ?_;rintro e w1 ⟨rfl,hb1⟩;obtain⟨hc1,hf1⟩:=hb1.cells;have hz1:=hb1.size;(repeat(first|rw[World.size_alloc]at hz1|rw[World.size_drew]at hz1));have z1_0:w.heap.size<w1.heap.size:=(by omega))
    |(go_at_call 75;refine(H2.out _).mono ?_;rintro e w2 ⟨rfl,hb2⟩;obtain⟨hc2,hf2⟩:=hb2.cells;have hz2:=hb2.size;(repeat(first|rw[World.size_alloc]at hz2|rw[World.size_drew]at hz2));have z2_0:w.heap.size<w2.heap.size:=(by omega)))
   go_ret
   exact⟨rfl,z_x⟩
 ·have he:iC W H n s=aT W H n:=by unfold iC;rw[if_neg h0]
  rw[he]
  generalize aT W H n=er at *
  have hq:(er==0)=false:=by simpa using h0
  clear h0 he
  go_enter Tryz.func33,Tryz.ntmps33
  go_wp2_with (go_at_call 74;refine(H1.out _).mono ?_;rintro e w1 ⟨rfl,hb1⟩;obtain⟨hc1,hf1⟩:=hb1.cells;have hz1:=hb1.size;(repeat(first|rw[World.size_alloc]at hz1|rw[World.size_drew]at hz1));have z1_0:w.heap.size<w1.heap.size:=(by omega))
  go_ret
  exact⟨rfl,z_x⟩
set_option maxRecDepth 100000 in
theorem pF (W H:Int) (a:Option Addr) (n c:Nat) (s fx fy tx ty b:Int) (w:World):
  Calls Tryz.prog 9 #[.agg #[.int .i64 W, .int .i64 H, .slice a n c], .agg #[.int .i64 s, .int .i64 fx, .int .i64 fy, .int .i64 tx, .int .i64 ty, .int .i64 b]] w fun e w'=>e= .returned (.bool (decide (n≤150)&&decide (iC W H n s=0)))∧Ext w w':=by
 have HM:=aA (fun(w':World)=>aI1 (w:=w') W H a n c s)
 by_cases hn:n≤150
 ·have hb:decide ((n:Int)≤150)=true:=by simp;omega
  rw[show decide (n≤150)=true by simpa using hn,Bool.true_and]
  obtain⟨er,her⟩: ∃z,iC W H n s=z:=⟨_,rfl⟩
  rw[her]at HM⊢
  have hz:(er==0)=decide (er=0):=by rw[Bool.eq_iff_iff];simp
  clear hn her
  go_enter Tryz.func9,Tryz.ntmps9
  go_wp2_with (go_at_call 33;refine(HM.out _).mono ?_;rintro e w1 ⟨rfl,hb1⟩;obtain⟨hc1,hf1⟩:=hb1.cells;have hz1:=hb1.size;(repeat(first|rw[World.size_alloc]at hz1|rw[World.size_drew]at hz1));have z1_0:w.heap.size<w1.heap.size:=(by omega))
  go_ret
  exact⟨by rw[←hz]<;>rfl,z_x⟩
 ·have hb:decide ((n:Int)≤150)=false:=by simp;omega
  rw[show decide (n≤150)=false by simpa using hn,Bool.false_and]
  clear hn HM
  go_enter Tryz.func9,Tryz.ntmps9
  go_wp2_with fail
  go_ret
  exact⟨rfl,z_x⟩
theorem xQ {W H s:Int} {l:List Int} (hu:cN l) (he:iC W H l.length s=0):Good W H s l:=by
 unfold iC at he
 by_cases h0:aT W H l.length=0
 ·rw[if_pos h0]at he
  by_cases hr2:aJ W H s=true
  ·exact⟨h0,hr2,hu⟩
  ·rw[if_neg hr2]at he;cases he
 ·rw[if_neg h0]at he;exact absurd he h0
end Go.Proofs.YtaellcgglldjaaaGreat

namespace Go.Proofs.YtaellcgglldjaaaGreat
open Go.RowKit
theorem vU {W H s:Int} {l:List Int} (g:Good W H s l) (hl:l.length≤150):(aD W H s l).length≤45000:=by
 have h1:cnt W H s≤W*H:=by
  obtain⟨r1,r2,r3,r4,r5,r6⟩:=rightB_true.1 g.right
  have b1:=bK W s r5 r6 r1 r2
  have b2:=bK H s r5 r6 r3 r4
  have hle: ∀L:Int,1≤L→acr L s≤L:=fun L hL=>by
   unfold acr
   apply Int.ediv_le_of_le_mul (by omega)
   have:=Int.mul_nonneg (show(0:Int)≤L-1 by omega) (show(0:Int)≤s-1 by omega)
   rw[Int.sub_mul,Int.mul_sub]at this
   omega
  unfold cnt
  exact Int.mul_le_mul (hle W r1) (hle H r3) (by omega) (by omega)
 have h2:=(checkE_ok.1 g.ok).2
 have h3:=g.cnt
 have h4:=aBs (l:=l) g.right (n:=(cnt W H s).toNat) (by omega)
 unfold aD
 omega
end Go.Proofs.YtaellcgglldjaaaGreat

namespace Go.Proofs.YtaellcgglldjaaaGreat
open Go.RowKit
theorem aIj {q:aB} {l:List aB}:0≤jF (fun c=>decide (c=q)) l↔q∈l:=by
 unfold jF
 rcases h:l.findIdx? (fun c=>decide (c=q)) with _|i
 ·simp only
  rw[List.findIdx?_eq_none_iff]at h
  constructor
  ·intro h0;omega
  ·intro hm
   have:=h q hm
   simp at this
 ·simp only
  obtain⟨hi,hp,_⟩:=List.findIdx?_eq_some_iff_getElem.1 h
  constructor
  ·intro _
   have:=of_decide_eq_true hp
   rw[←this]
   exact List.getElem_mem hi
  ·intro _;omega
theorem aEq {w:World} {a:Option Addr} {l:List aB} {n:Nat} (c:Nat) (hn:l.length=n) (hl:n≤1000000) (hr:RowC w a l) (q:aB):
  Calls Tryz.prog 50 #[.slice a n c, .agg #[.int .i64 q.1, .int .i64 q.2]] w fun e w'=>e= .returned (.bool (decide (q∈l)))∧Ext w w':=by
 have HI:=aA (fun(w':World) (x:Ext w w')=>tV (w:=w') c hn hl (hr.ext x) q)
 have HG:=aA (aIj (q:=q) (l:=l))
 generalize jF (fun c=>decide (c=q)) l=z at *
 obtain⟨b,hb⟩: ∃b,decide (q∈l)=b:=⟨_,rfl⟩
 rw[hb]
 have HZ:=aA (show decide (0≤z)=b by rw[←hb];exact decide_eq_decide.2 HG.out)
 obtain⟨qx,qy⟩:=q
 simp only at HI⊢
 clear hn hr hb HG
 go_enter Tryz.func50,Tryz.ntmps50
 go_wp2_with fail
 refine(HI.out _ ((Ext.refl _).alloc _)).mono ?_
 rintro e w1 ⟨rfl,x1⟩
 have X1:=aA (((Ext.refl w).alloc _).trans x1)
 have hz:=HZ.out
 clear x1
 go_wp2_with fail
 go_ret
 exact⟨rfl,X1.out⟩
section
variable {w:World} {p:Spot} {R:Nat→Prop} {W H s:Int} {l:List Int}
def aJt (w:World) (W H s:Int) (l:List Int) (f t a:aB) (e:Ending) (w':World):Prop:=
 Ext w w'∧
 ((¬(inB W H f.1 f.2=true∧inB W H t.1 t.2=true∧inB W H a.1 a.2=true)∧e= .returned (.tuple #[.slice none 0 0, .int .i64 10]))∨
 ((inB W H f.1 f.2=true∧inB W H t.1 t.2=true∧inB W H a.1 a.2=true)∧a∉aX W H (aD W H s l) f t∧e= .returned (.tuple #[.slice none 0 0, .int .i64 14]))∨
 ((inB W H f.1 f.2=true∧inB W H t.1 t.2=true∧inB W H a.1 a.2=true)∧a∈aX W H (aD W H s l) f t∧ ∃v,e= .returned (.tuple #[v, .int .i64 0])∧Own (sA a) w' w.heap.size 56 v (bR W H s l (aD W H s l) f t a)))
theorem vG {f t a:aB} (g:Good W H s l):(bR W H s l (aD W H s l) f t a).length≤l.length+(aD W H s l).length:=by
 unfold bR bG bC
 rw[List.length_append,List.length_map]
 have h1:(aX W H (aD W H s l) f t).length≤l.length:=by
  have hn:(aX W H (aD W H s l) f t).Nodup:=jI (gW _ _ _ _ _)
  have h2:((aX W H (aD W H s l) f t).map (aC W)).Nodup:=by
   unfold List.Nodup
   rw[List.pairwise_map]
   refine List.Pairwise.imp_of_mem (fun {a b} ha hb hne e=>hne ?_) hn
   exact uF (eL g ha) (eL g hb) e
  have h3:=iA h2 (n:=l.length) (fun v hv=>by
   obtain⟨c,hc,rfl⟩:=List.mem_map.1 hv
   exact jN (checkE_ok.1 g.ok).2 (eL g hc))
  simpa using h3
 have h4:=List.length_filter_le (fun c=>decide (ofN W s c.1 c.2=ofN W s a.1 a.2)&&(!(decide (c=a))&& !(decide (cA W H s l a c=aL)))) (aX W H (aD W H s l) f t)
 have h5:((aD W H s l).flatMap (fX W l a)).length≤(aD W H s l).length:=by
  generalize aD W H s l=G
  induction G with
  |nil=>simp
  |cons g G ih=>
   rw[List.flatMap_cons,List.length_append,List.length_cons]
   have:(fX W l a g).length≤1:=by
    unfold fX
    split
    ·simp
    ·split<;>simp
   omega
 omega
theorem sU {f t:aB} (g:Good W H s l):(aX W H (aD W H s l) f t).length≤l.length:=by
 have hn:(aX W H (aD W H s l) f t).Nodup:=jI (gW _ _ _ _ _)
 have h2:((aX W H (aD W H s l) f t).map (aC W)).Nodup:=by
  unfold List.Nodup
  rw[List.pairwise_map]
  refine List.Pairwise.imp_of_mem (fun {a b} ha hb hne e=>hne ?_) hn
  exact uF (eL g ha) (eL g hb) e
 have h3:=iA h2 (n:=l.length) (fun v hv=>by
  obtain⟨c,hc,rfl⟩:=List.mem_map.1 hv
  exact jN (checkE_ok.1 g.ok).2 (eL g hc))
 simpa using h3
set_option maxRecDepth 100000 in
set_option maxHeartbeats 1000000 in
theorem sF (h:WorldAt w p R W H s l) (g:Good W H s l) (hl:l.length≤150) (hgl:(aD W H s l).length≤45000) (f t a:aB):
  Calls Tryz.prog 17 #[.pointer (some ⟨p.b,0,none⟩), .agg #[.int .i64 f.1, .int .i64 f.2], .agg #[.int .i64 t.1, .int .i64 t.2], .agg #[.int .i64 a.1, .int .i64 a.2]] w (aJt w W H s l f t a):=by
 have HLK:=aA (fun(w':World) (x:Ext w w') (ma:Option Addr) (mc:Nat) (hm:Reads cellE w' (.slice ma 1 mc) [a])=>rQ (h.ext x) f t [a] ma mc hm (by simp))
 have HLL:=aA (vG g (f:=f) (t:=t) (a:=a))
 have HNL:=aA (sU g (f:=f) (t:=t))
 have hll:=hl
 obtain⟨pb,hpb⟩: ∃z,p.b=z:=⟨_,rfl⟩
 rw[hpb]at HLK⊢
 obtain⟨fx,fy⟩:=f
 obtain⟨tx,ty⟩:=t
 obtain⟨ax,ay⟩:=a
 simp only[List.length_cons,List.length_nil,Nat.zero_add]at HLK
 clear h hpb g
 simp only
 go_enter Tryz.func17,Tryz.ntmps17
 go_upto_region 1 with(fail)
 obtain⟨w1,hw1⟩: ∃z,z=((w.alloc (.cells #[.int .i64 fx, .int .i64 fy] 28)).alloc (.cells #[.int .i64 tx, .int .i64 ty] 28)).alloc (.cells #[.int .i64 ax, .int .i64 ay] 28):=⟨_,rfl⟩
 have X1:=aA (show Ext w w1 by rw[hw1];exact(((Ext.refl _).alloc _).alloc _).alloc _)
 have F1:=aA (show Blk w1 w.heap.size 28 #[.int .i64 fx, .int .i64 fy] by rw[hw1];exact(Blk.new_ rfl).over.over)
 have T1:=aA (show Blk w1 (w.heap.size+1) 28 #[.int .i64 tx, .int .i64 ty] by rw[hw1];exact(Blk.new_ (by simp)).over)
 have A1:=aA (show Blk w1 (w.heap.size+1+1) 28 #[.int .i64 ax, .int .i64 ay] by rw[hw1];exact Blk.new_ (by simp))
 rw[←hw1]
 obtain⟨gb,hgb⟩: ∃z,w.heap.size=z:=⟨_,rfl⟩
 have HGB:=aA hgb
 rw[hgb]at F1 T1 A1⊢
 clear hw1 hgb
 have f0:=F1.out.at 0 rfl;have f1:=F1.out.at 1 rfl;have fz:=F1.out.lt
 have t0:=T1.out.at 0 rfl;have t1:=T1.out.at 1 rfl;have tz:=T1.out.lt
 have a0:=A1.out.at 0 rfl;have a1:=A1.out.at 1 rfl;have az:=A1.out.lt
 go_wp2_with fail
 refine(HLK.out _ (X1.out.trans ((Ext.refl _).alloc _)) _ _ (oZ cellE w1 #[.int .i64 ax, .int .i64 ay] 28 [(ax,ay)] rfl w1.heap.size 1 1 rfl rfl)).mono ?_
 rintro e w2 (⟨h1,rfl,x2⟩|⟨h1,lb,fa,fc,ga,gc,rfl,x2,L⟩)
 ·have X2:=aA ((X1.out.trans ((Ext.refl _).alloc _)).trans x2)
  have H1:=aA h1
  clear x2 h1
  go_wp2_with fail
  refine bodyPost_ret (v:= .tuple #[.slice none 0 0, .int .i64 10]) (by simp[results,Tryz.results17,go_sem, *]) rfl ?_
  refine⟨X2.out, .inl ⟨fun hh=> ?_,rfl⟩⟩
  have:=H1.out
  simp[hh.1,hh.2.1,hh.2.2]at this
 ·have X12:=aA (((Ext.refl w1).alloc _).trans x2)
  have X2:=aA (X1.out.trans X12.out)
  have H1:=aA (show inB W H fx fy=true∧inB W H tx ty=true∧inB W H ax ay=true by simpa using h1)
  have A2:=aA (A1.out.ext X12.out)
  have HN:=aA (fun(w':World) (x:Ext w2 w')=>sK (L.ext x) (by omega))
  have HL:=aA L
  have zw:=X2.out.size
  clear x2 h1 L f0 f1 fz t0 t1 tz a0 a1 az F1 T1 A1
  have a0:=A2.out.at 0 rfl;have a1:=A2.out.at 1 rfl;have az:=A2.out.lt
  go_upto_region 4 with(fail)
  have HNLb:=HNL.out
  refine aF (S:=(fun W=>(∀b o,b<w2.heap.size→W.cell? ⟨b,o,none⟩=w2.cell? ⟨b,o,none⟩)∧Ext w2 W)) [(0,true),(2,true),(1,false),(3,false),(4,true)] (by kernel_rfl) (by kernel_rfl) (by kernel_rfl) (by decide) (fun _ _ d _ _ h=>by cases d<;>exact h) (by first|with_reducible exact aI _|exact aE z_x) (fun hHeld=> ?_)
  iterate 2 (refine SeqH.fr1 ?_;try simp only[Act.put,z_3,z_4,z_5])
  (apply SeqH.step;(·(simp only[z_0,z_1,z_2];rfl));intro K hK;go_simp;refine(HN.out _ z_x).mono ?_;rintro e w3 ⟨v3,rfl,x3,o3⟩;obtain⟨va,vc,rfl⟩:=o3.slice;have RC:=aA (Reads.rowC o3.reads).2;clear o3;go_wp2_with fail;refine hK.out _ _ (aE z_x) (fun hHeld=> ?_);clear hK K;try simp only[Act.put,z_3,z_4,z_5])
  (apply SeqH.step;(·(simp only[z_0,z_1,z_2];rfl));intro K hK;go_simp;refine(aEq vc rfl (by omega) (RC.out.ext (by first|exact z_r _|exact z_x)) (ax,ay)).mono ?_;rintro e w4 ⟨rfl,x4⟩;go_wp2_with fail;refine hK.out _ _ (aE z_x) (fun hHeld=> ?_);clear hK K;try simp only[Act.put,z_3,z_4,z_5])
  iterate 1 (refine SeqH.fr1 ?_;try simp only[Act.put,z_3,z_4,z_5])
  refine SeqH.done ?_
  have XE:=aA hHeld.2
  have X4:=aA (X2.out.trans XE.out)
  have A4:=aA (A2.out.ext XE.out)
  clear hHeld a0 a1 az A2 x3 x4
  have a0:=A4.out.at 0 rfl;have a1:=A4.out.at 1 rfl;have az:=A4.out.lt
  by_cases hm:(ax,ay)∈aX W H (aD W H s l) (fx,fy) (tx,ty)
  ·have hd:decide ((ax,ay)∈aX W H (aD W H s l) (fx,fy) (tx,ty))=true:=decide_eq_true hm
   rw[hd]
   have HM:=aA hm
   clear hm hd HNLb
   go_wp2_with fail
   refine(rA (lb:=lb) (ax,ay) _).mono ?_
   rintro e w5 ⟨rfl,hw5⟩
   have x5:Ext w4 w5:=by rw[hw5];exact((Ext.refl _).alloc _).alloc _
   have BL:Blk w5 w4.heap.size 98 #[.pointer (some ⟨lb,0,none⟩)]:=by rw[hw5];exact(Blk.new_ rfl).over
   have BA:Blk w5 (w4.heap.size+1) 28 #[.int .i64 ax, .int .i64 ay]:=by rw[hw5];exact Blk.new_ (by simp)
   have z5:w5.heap.size=w4.heap.size+1+1:=by rw[hw5];simp
   have zx:=XE.out.size
   have hseq:=pQ HL.out (XE.out.trans x5) (by omega) (a:=(ax,ay)) H1.out.2.2 BL BA
   have eg: ∀args w,(callFunc 99 args).run Tryz.prog w= .ok (.enter 99 args) w:=enters_of Tryz.func99 (by kernel_rfl) rfl
   have HCO:=aA (aBp eg hseq (fun k hk=>by rcases hk with hk|rfl|rfl<;>omega) (by have:=HLL.out;omega))
   have X5:=aA (X4.out.trans x5)
   have zw5:=X5.out.size
   clear hw5 x5 BL BA z5 hseq eg
   go_wp2_with fail
   refine(HCO.out).mono ?_
   rintro e w6 ⟨v6,rfl,x6,o6⟩
   have O6:=aA (o6.lower (base':=w.heap.size) zw5)
   have X6:=aA (X5.out.trans x6)
   obtain⟨v6a,v6c,rfl⟩:=o6.slice
   clear o6 x6
   go_wp2_with fail
   refine bodyPost_ret (v:= .tuple #[.slice v6a (bR W H s l (aD W H s l) (fx,fy) (tx,ty) (ax,ay)).length v6c, .int .i64 0]) (by simp[results,Tryz.results17,go_sem, *]) rfl ?_
   exact⟨X6.out, .inr (.inr ⟨H1.out,HM.out,_,rfl,O6.out⟩)⟩
  ·have hd:decide ((ax,ay)∈aX W H (aD W H s l) (fx,fy) (tx,ty))=false:=decide_eq_false hm
   rw[hd]
   have HM:=aA hm
   clear hm hd HNLb
   go_wp2_with fail
   refine bodyPost_ret (v:= .tuple #[.slice none 0 0, .int .i64 14]) (by simp[results,Tryz.results17,go_sem, *]) rfl ?_
   exact⟨X4.out, .inr (.inl ⟨H1.out,HM.out,rfl⟩)⟩
end
end Go.Proofs.YtaellcgglldjaaaGreat

namespace Go.Proofs.YtaellcgglldjaaaGreat
open Go.RowKit
set_option maxRecDepth 100000 in
theorem xK (W H:Int) (a:Option Addr) (n c:Nat) (s fx fy tx ty b:Int) (w:World) (hm:bM W H=true):
  Calls Tryz.prog 13 #[.agg #[.int .i64 W, .int .i64 H, .slice a n c], .agg #[.int .i64 s, .int .i64 fx, .int .i64 fy, .int .i64 tx, .int .i64 ty, .int .i64 b]] w fun e w'=>e= .returned (.bool (inB W H fx fy&&inB W H tx ty))∧Ext w w':=by
 have HI1:=aA (fun(w':World)=>pB W H fx fy w' hm)
 have HI2:=aA (fun(w':World)=>pB W H tx ty w' hm)
 clear hm
 generalize inB W H fx fy=b1 at *
 generalize inB W H tx ty=b2 at *
 go_enter Tryz.func13,Tryz.ntmps13
 go_upto_region 1 with(fail)
 obtain⟨w1,hw1⟩: ∃z,z=(w.alloc (.cells #[.int .i64 W, .int .i64 H, .slice a n c] 26)).alloc (.cells #[.int .i64 s, .int .i64 fx, .int .i64 fy, .int .i64 tx, .int .i64 ty, .int .i64 b] 30):=⟨_,rfl⟩
 have X1:=aA (show Ext w w1 by rw[hw1];exact((Ext.refl _).alloc _).alloc _)
 have F1:=aA (show Blk w1 w.heap.size 26 #[.int .i64 W, .int .i64 H, .slice a n c] by rw[hw1];exact(Blk.new_ rfl).over)
 have Q1:=aA (show Blk w1 (w.heap.size+1) 30 #[.int .i64 s, .int .i64 fx, .int .i64 fy, .int .i64 tx, .int .i64 ty, .int .i64 b] by rw[hw1];exact Blk.new_ (by simp))
 rw[←hw1]
 obtain⟨fb,hfb⟩: ∃z,w.heap.size=z:=⟨_,rfl⟩
 rw[hfb]at F1 Q1⊢
 clear hw1 hfb
 have q0:=Q1.out.at 0 rfl;have q1:=Q1.out.at 1 rfl;have q2:=Q1.out.at 2 rfl;have q3:=Q1.out.at 3 rfl;have q4:=Q1.out.at 4 rfl;have q5:=Q1.out.at 5 rfl;have qz:=Q1.out.lt
 have f0:=F1.out.at 0 rfl;have f1:=F1.out.at 1 rfl;have f2:=F1.out.at 2 rfl;have fz:=F1.out.lt
 go_wp2_with fail
 refine(HI1.out _).mono ?_
 rintro e w2 ⟨rfl,x2⟩
 have X2:=aA (X1.out.trans x2)
 have F2:=aA (F1.out.ext x2)
 have Q2:=aA (Q1.out.ext x2)
 clear x2 q0 q1 q2 q3 q4 q5 qz f0 f1 f2 fz F1 Q1 X1
 cases b1
 ·clear HI1 HI2
  go_wp2_with fail
  go_ret
  exact⟨rfl,X2.out⟩
 ·have q0:=Q2.out.at 0 rfl;have q1:=Q2.out.at 1 rfl;have q2:=Q2.out.at 2 rfl;have q3:=Q2.out.at 3 rfl;have q4:=Q2.out.at 4 rfl;have q5:=Q2.out.at 5 rfl;have qz:=Q2.out.lt
  have f0:=F2.out.at 0 rfl;have f1:=F2.out.at 1 rfl;have f2:=F2.out.at 2 rfl;have fz:=F2.out.lt
  go_wp2_with fail
  refine(HI2.out _).mono ?_
  rintro e w3 ⟨rfl,x3⟩
  have X3:=aA (X2.out.trans x3)
  clear x3
  go_wp2_with fail
  go_ret
  exact⟨rfl,X3.out⟩
theorem rK {α:Type} {E:Enc α} {w:World} {a:Option Addr} {n c:Nat} {l:List α} (h:Reads E w (.slice a n c) l) {k:Nat} {y:α} (hk:l[k]? =some y):
  ∃b off,a=some ⟨b,off,none⟩∧b<w.heap.size∧ ∀(j:Nat) (u:Value),(E.cells y)[j]? =some u→w.cell? ⟨b,off+(k*E.size+j),none⟩=some u:=by
 rcases h with⟨_,rfl⟩|⟨b,off,cap,hv,hb,hc⟩
 ·simp at hk
 ·injection hv with h1 _ _
  exact⟨b,off,h1,hb,hc k y hk⟩
theorem aG3 {w w':World} {W H s:Int} {l:List Int} {f t a:aB} {e:Ending} (h:aJt w W H s l f t a e w') (hon:inB W H f.1 f.2=true∧inB W H t.1 t.2=true):
  ∃(va:Option Addr) (vc:Nat) (L:List (aB×Int)) (er:Int),e= .returned (.tuple #[.slice va L.length vc, .int .i64 er])∧Ext w w'∧Own (sA a) w' w.heap.size 56 (.slice va L.length vc) L∧
   ((inB W H a.1 a.2=false∧er=10∧L=[])∨(inB W H a.1 a.2=true∧a∉aX W H (aD W H s l) f t∧er=14∧L=[])∨(inB W H a.1 a.2=true∧a∈aX W H (aD W H s l) f t∧er=0∧L=bR W H s l (aD W H s l) f t a)):=by
 obtain⟨x,⟨h1,rfl⟩|⟨h1,h2,rfl⟩|⟨h1,h2,v,rfl,o⟩⟩:=h
 ·refine⟨none,0,[],10,rfl,x,Own.nil _ _ _ _, .inl ⟨?_,rfl,rfl⟩⟩
  cases h:inB W H a.1 a.2
  ·rfl
  ·exact absurd ⟨hon.1,hon.2,h⟩ h1
 ·exact⟨none,0,[],14,rfl,x,Own.nil _ _ _ _, .inr (.inl ⟨h1.2.2,h2,rfl,rfl⟩)⟩
 ·obtain⟨va,vc,rfl⟩:=o.slice
  exact⟨va,vc,_,0,rfl,x,o, .inr (.inr ⟨h1.2.2,h2,rfl,rfl⟩)⟩
end Go.Proofs.YtaellcgglldjaaaGreat

namespace Go.Proofs.YtaellcgglldjaaaGreat
open Go.RowKit
theorem wY {α:Type} (E:Enc α) {P:Program} {t e:TypeId} {z:Value} {bytes:Nat} (T:bV P t e z E.size bytes) {ops:Array Oper} {o:Oper} {a:Act} {K:Act→World→Prop} {Q:Exit→Act→World→Prop} {F:Prop} {w:World}
  (hgd:o.guard=none) (s x:Operand) (ho:o.op= .call {callee:= .builtin .append,args:= #[s,x],argTypes:= #[t,t]})
  (base:Nat) (v:Value) (l1 l2:List α) (hs:a.eval s=v) (hown:Own E w base e v l1) (u:Value) (hx:a.eval x=u) (hr:Reads E w u l2)
  (hlen:(l1.length+l2.length)*bytes≤140737488355328) (hl:l1.length+l2.length≤1000000000) (hbase:base≤w.heap.size)
  (h: ∀v' w',Own E w' base e v' (l1++l2)→Touch (fun k=>v.ownBlock=some k) w w'→(∀k,v'.ownBlock=some k→v.ownBlock=some k∨w.heap.size≤k)→K (a.put o.dst v') w'):if Region.wanted o (yielded ops a.tmps)=true then Oper.wp P o a w K Q else F:=by
 have hw:Region.wanted o (yielded ops a.tmps)=true:=by simp[Region.wanted,hgd]
 rw[if_pos hw]
 rcases hr with⟨rfl,rfl⟩|⟨b,off,c,rfl,hb,hc⟩
 ·obtain⟨i0,hi,_,_,_⟩:=info_parts T.info
  have hr:=run_append_owned_none (P:=P) (w:=w) base t o.type e i0 E.size T.under hi v l1.length (l1.flatMap E.cells) hown
  unfold Oper.wp execOp
  simp only[ho,resolve,invoke,builtin,Sem.run_bind,Sem.run_pure,Result.andThen_ok,List.map_toArray,List.map_cons,List.map_nil,hs,hx,hr]
  exact h v w (by rw[List.append_nil];exact hown) (Touch.refl _ w) (fun k hk=> .inl hk)
 ·obtain⟨i0,hi,hz0,hz1,hz2⟩:=info_parts T.info
  have hcells: ∀(j:Nat) (u:Value),(l2.flatMap E.cells)[j]? =some u→w.cell? ((⟨b,off,none⟩:Addr).add j)=some u:=by
    intro j u hu
    have hadd:(⟨b,off,none⟩:Addr).add j=⟨b,off+j,none⟩:=by unfold Addr.add;split<;>simp_all
    rw[hadd]
    have hpos:0<E.size:=T.pos
    have hjl:j<l2.length*E.size:=by
     have:=(List.getElem?_eq_some_iff.1 hu).1
     rw[E.flat_len]at this
     exact this
    have hk:j/E.size<l2.length:=Nat.div_lt_of_lt_mul (by rw[Nat.mul_comm];exact hjl)
    have hm:j% E.size<E.size:=Nat.mod_lt _ hpos
    have hj:j/E.size*E.size+j% E.size=j:=by rw[Nat.mul_comm];exact Nat.div_add_mod j E.size
    have hy:l2[j/E.size]? =some l2[j/E.size]:=List.getElem?_eq_getElem hk
    obtain⟨u',hu'⟩: ∃u',(E.cells (l2[j/E.size]'hk))[j% E.size]? =some u':=⟨_,List.getElem?_eq_getElem (Nat.lt_of_lt_of_eq hm (E.len _).symm)⟩
    have h2:=cG E l2 _ _ hy _ _ hu'
    rw[hj,hu]at h2
    injection h2 with h2
    have:=hc _ _ hy _ _ hu'
    rw[hj]at this
    rw[h2]
    exact this
  obtain⟨v',w',hr,hown',hg,_,hat⟩:=run_append_own_at (P:=P) w base t o.type e i0 z E.size bytes T.under hi hz0 hz1 hz2 T.zs T.pos v l1.length (l1.flatMap E.cells) hown ⟨b,off,none⟩ l2.length c (l2.flatMap E.cells) (E.flat_len l2) hcells (E.flat_one l2) (by unfold maxLen;omega) hlen hbase
  unfold Oper.wp execOp
  simp only[ho,resolve,invoke,builtin,Sem.run_bind,Sem.run_pure,Result.andThen_ok,List.map_toArray,List.map_cons,List.map_nil,hs,hx,hr]
  have hown'':Own E w' base e v' (l1++l2):=by
   unfold Own
   rw[List.length_append,List.flatMap_append]
   exact hown'
  refine h v' w' hown'' ((Touch.refl _ w).grown hg (fun k hk=> .inl hk)) (fun k hk=> ?_)
  rcases hat with hat|hat
  ·exact .inl (by rw[←hat];exact hk)
  ·rw[hat]at hk;injection hk with hk;exact .inr (by omega)
def TurnsAt (w:World) (a:Option Addr) (L:List (List (Int×Int)×Bool)):Prop:=
 0<L.length→ ∃b off,a=some ⟨b,off,none⟩∧b<w.heap.size∧ ∀k (h:k<L.length),∃sa sc,w.cell? ⟨b,off+k*2,none⟩=some (.slice sa L[k].1.length sc)∧w.cell? ⟨b,off+k*2+1,none⟩=some (.bool L[k].2)∧RowC w sa L[k].1
theorem TurnsAt.ext {w w':World} {a:Option Addr} {L:List (List (Int×Int)×Bool)} (h:TurnsAt w a L) (x:Ext w w'):TurnsAt w' a L:=fun h0=>by
 obtain⟨b,off,e,hb,hc⟩:=h h0
 refine⟨b,off,e,Nat.lt_of_lt_of_le hb x.size,fun k hk=> ?_⟩
 obtain⟨sa,sc,c0,c1,r⟩:=hc k hk
 exact⟨sa,sc,(x.cell (p:=⟨b,_,none⟩) hb).trans c0,(x.cell (p:=⟨b,_,none⟩) hb).trans c1,r.ext x⟩
end Go.Proofs.YtaellcgglldjaaaGreat

namespace Go.Proofs.YtaellcgglldjaaaGreat
open Go.RowKit
set_option maxRecDepth 100000 in
theorem tG (W H:Int) (ad:Option Addr) (n c:Nat) (a:Option Addr) (cc:Nat) (w:World):
  Calls Tryz.prog 93 #[.agg #[.int .i64 W, .int .i64 H, .slice ad n c], .slice a 0 cc] w (lC w []):=by
 go_enter Tryz.func93,Tryz.ntmps93
 go_wp2
 go_loopw [5,6] (fun o i wr=>i= .int .i64 0∧Ext w wr∧Own aS wr w.heap.size 132 o []) (fun _ _ _=>0)
 case atStart=>exact⟨rfl,z_x,(Own.lit0 aS (w.alloc (.cells #[.int .i64 W, .int .i64 H, .slice ad n c] 26)) w.heap.size _ _ (by simp) (by omega))⟩
 case round=>
  obtain⟨rfl,hx,ho⟩:=hrel
  have HX:=aA hx
  have HO:=aA ho
  obtain⟨ao,co,rfl⟩:=ho.slice
  clear hx ho
  go_wp2
  go_ret
  exact⟨_,rfl,HX.out,HO.out⟩
theorem aJ5 {W H s x y:Int} (hr:aJ W H s=true) (h0:0≤x) (hxy:x<y) (h1:y<cnt W H s) (k:Nat) (p:aB×aB) (hk:(dM W H s x y)[k]? =some p):sP W H p:=by
 unfold dM at hk
 rw[show min x y=x by omega,show max x y=y by omega]at hk
 by_cases hn:eD (aQ W H s x) y=true
 ·rw[if_pos hn]at hk
  exact wC hr h0 hxy h1 hn k p hk
 ·rw[if_neg hn]at hk
  simp at hk
theorem wD {W H s x y:Int} (hr:aJ W H s=true) (h0:0≤x) (hxy:x<y) (h1:y<cnt W H s):(dM W H s x y).length≤16:=by
 unfold dM
 rw[show min x y=x by omega,show max x y=y by omega]
 by_cases hn:eD (aQ W H s x) y=true
 ·rw[if_pos hn];exact mX hr h0 (by omega)
 ·rw[if_neg hn];simp
theorem aJ7 {l:List Int} {W H s x y:Int} (hr:aJ W H s=true) (h0:0≤x) (hxy:x<y) (h1:y<cnt W H s):(kU l W H s x y).length≤16:=by
 unfold kU
 have h:=wD (W:=W) (H:=H) (s:=s) hr h0 hxy h1
 exact Nat.le_trans (yT _ _ _) h
theorem wW (W H:Int) (ad:Option Addr) (l:List Int) (c:Nat) (s x y:Int) (base:Nat) (v:Value) (w:World) (hm:bM W H=true) (hl:(l.length:Int)=W*H) (hr:Row16 w ad l) (hu:cN l) (ht:aJ W H s=true) (h0:0≤x) (hxy:x<y) (h1:y<cnt W H s)
  (hv:Own aS w base 225 v (dM W H s x y)):
  Calls Tryz.prog 93 #[.agg #[.int .i64 W, .int .i64 H, .slice ad l.length c],v] w (lC w (kU l W H s x y)):=by
 have hln:=wD (W:=W) (H:=H) (s:=s) ht h0 hxy h1
 by_cases hp:0<(dM W H s x y).length
 ·obtain⟨g,cc,rfl,_,hg⟩:=hv.pos hp
  exact tZ W H ad l c g cc (dM W H s x y) w hm hl hr hu (by omega) hg hv.reads.pairs.2 (aJ5 ht h0 hxy h1)
 ·have hz:dM W H s x y=[]:=List.eq_nil_of_length_eq_zero (by omega)
  obtain⟨a,cc,rfl⟩:=hv.slice
  have e:kU l W H s x y=[]:=by unfold kU;rw[hz];rfl
  rw[e,hz]
  exact tG W H ad l.length c a cc w
theorem qO (l:List Int) (W H s:Int) (a m:Nat):dR l W H s a (m+1)=dR l W H s a m++kU l W H s (a:Int) ((a+1+m:Nat):Int):=by
 unfold dR
 rw[List.range'_concat,List.flatMap_append]
 simp
theorem aB9 (l:List Int) (W H s:Int) (a m k:Nat):(dR l W H s a m).length≤(dR l W H s a (m+k)).length:=by
 induction k with
 |zero=>exact Nat.le_refl _
 |succ k ih=>rw[←Nat.add_assoc,qO,List.length_append];omega
theorem tJ {l:List Int} {W H s:Int} (hr:aJ W H s=true) {N a m:Nat} (hN:cnt W H s=(N:Int)) (ha:a<N) (hm:m≤N-(a+1)):(dR l W H s a m).length≤64:=by
 have h1:=aB9 l W H s a m (N-(a+1)-m)
 rw[show m+(N-(a+1)-m)=N-(a+1) by omega,vN hr hN ha]at h1
 exact Nat.le_trans h1 (aA0 hr (by omega) (by omega))
theorem rB (l:List Int) (W H s:Int) (N n:Nat):fA l W H s N (n+1)=fA l W H s N n++dR l W H s n (N-(n+1)):=by
 unfold fA;rw[List.range_succ,List.flatMap_append];simp
theorem sC {l:List Int} {W H s:Int} (hr:aJ W H s=true) {N:Nat} (hN:cnt W H s=(N:Int)): ∀n,n≤N→(fA l W H s N n).length≤n*64
 |0,_=>by simp[fA]
 |n+1,h=>by
  rw[rB,List.length_append]
  have h1:=sC hr hN (l:=l) n (by omega)
  have h2:=tJ (l:=l) hr hN (show n<N by omega) (Nat.le_refl _)
  omega
set_option maxRecDepth 100000 in
set_option maxHeartbeats 1500000 in
theorem aGv (W H:Int) (ad:Option Addr) (l:List Int) (c:Nat) (s:Int) (N:Nat) (w:World) (hm:bM W H=true) (hl:(l.length:Int)=W*H) (hr:Row16 w ad l) (hu:cN l) (ht:aJ W H s=true) (hN:(bO W H s).length=N):
  Calls Tryz.prog 47 #[.agg #[.int .i64 W, .int .i64 H, .slice ad l.length c], .int .i64 s] w (lC w (fA l W H s N N)):=by
 have HR:=aA hr
 have HU:=aA hu
 have b0:=lZ ht
 have HC:=aA (show cnt W H s=(N:Int) by rw[←dI ht,hN])
 have hN1:1≤N:=by have:=HC.out;omega
 have hN2:N≤65536:=by have:=HC.out;omega
 have HN:=aA hN
 have HL:=aA hl
 clear hr hu b0 hN hl
 go_enter Tryz.func47,Tryz.ntmps47
 go_wp2_with fail
 have BF:Hid (Blk (w.alloc (.cells #[.int .i64 W, .int .i64 H, .slice ad l.length c] 26)) w.heap.size 26 #[.int .i64 W, .int .i64 H, .slice ad l.length c]):=aA (Blk.new_ rfl)
 have X1:Hid (Ext w (w.alloc (.cells #[.int .i64 W, .int .i64 H, .slice ad l.length c] 26))):=aA z_x
 obtain⟨w1,hw1⟩: ∃w1,w.alloc (.cells #[.int .i64 W, .int .i64 H, .slice ad l.length c] 26)=w1:=⟨_,rfl⟩
 obtain⟨f,hf⟩: ∃f,w.heap.size=f:=⟨_,rfl⟩
 rw[hw1]at BF X1⊢
 rw[hf]at BF⊢
 clear hw1 hf
 refine(sT _ _ _ _ ht).mono ?_
 rintro e w2 ⟨v2,rfl,x2,o2⟩
 have o2':Own aS w2 w1.heap.size 71 v2 (bO W H s):=o2
 obtain⟨g,cg,rfl,hg1,hg2⟩:=o2'.pos (by rw[HN.out];omega)
 rw[HN.out]at o2'⊢
 have O2:=aA o2'
 have X2:=aA (show Ext w1 w2 from x2)
 have BF2:=aA (BF.out.ext x2)
 clear o2 o2' x2
 go_wp2_with fail
 have OB:Hid (Own aS (w2.alloc (.cells #[] 132)) w2.heap.size 132 (.slice (some ⟨w2.heap.size,0,none⟩) 0 0) []):=aA (Own.lit0 aS w2 _ _ _ rfl (Nat.le_refl _))
 have XB:Hid (Ext w2 (w2.alloc (.cells #[] 132))):=aA ((Ext.refl _).alloc _)
 go_loopw [6,7] (fun o i wr=> ∃a:Nat,i= .int .i64 (a:Int)∧a≤N∧Ext w2 wr∧Own aS wr w2.heap.size 132 o (fA l W H s N a)) (fun _ i _=>N-(intOf i).toNat)
 case atStart=>exact⟨0,rfl,Nat.zero_le _,XB.out,by simpa [fA] using OB.out⟩
 case round=>
  obtain⟨a,rfl,ha,hx,ho⟩:=hrel
  have HX:=aA hx
  have HO:=aA ho
  clear hx ho XB OB
  by_cases hlt:a<N
  ·have HRS:=aA (rB l W H s N a)
   have HAl:=aA (sC (l:=l) ht HC.out a ha)
   go_wp2_with fail
   go_loopw [6,8] (fun o i wy=> ∃m:Nat,i= .int .i64 ((a+1+m:Nat):Int)∧a+1+m≤N∧Ext w2 wy∧Own aS wy w2.heap.size 132 o (fA l W H s N a++dR l W H s a m)) (fun _ i _=>N-(intOf i).toNat)
   case atStart=>exact⟨0,by go_num,by omega,HX.out,by simpa [dR] using HO.out⟩
   case round=>
    obtain⟨m,rfl,hm',hx,ho⟩:=hrel
    have HXm:=aA hx
    have HOm:=aA ho
    obtain⟨b,hb⟩: ∃b,a+1+m=b:=⟨_,rfl⟩
    rw[hb]at hm'⊢
    have HB:=aA hb
    have hab:a<b:=by omega
    have BFr:=aA (BF2.out.ext hx)
    have q0:=BFr.out.at 0 rfl;have q1:=BFr.out.at 1 rfl;have q2:=BFr.out.at 2 rfl;have qz:=BFr.out.lt
    clear hx ho hb
    by_cases hltb:b<N
    ·have hbc:(b:Int)<cnt W H s:=by rw[HC.out];omega
     have HRm:=aA (show dR l W H s a (m+1)=dR l W H s a m++kU l W H s (a:Int) (b:Int) by rw[qO,HB.out])
     have HRl:=aA (tJ (l:=l) ht HC.out hlt (m:=m) (by have:=HB.out;omega))
     have HBl:=aA (aJ7 (l:=l) ht (x:=(a:Int)) (y:=(b:Int)) (by omega) (by omega) hbc)
     have HBd:=aA (fun(w':World) (x:Ext wr w')=>aAi g cg N W H s a b w' ht HN.out hlt hltb (O2.out.reads.ext (HXm.out.trans x)))
     have HBt:=aA (fun(w':World) (x:Ext wr w') (base:Nat) (v:Value) (hv:Own aS w' base 225 v (dM W H s (a:Int) (b:Int)))=>wW W H ad l c s (a:Int) (b:Int) base v w' hm HL.out (HR.out.ext (((X1.out.trans X2.out).trans HXm.out).trans x)) HU.out ht (by omega) (by omega) hbc hv)
     obtain⟨ao,co,rfl⟩:=HOm.out.slice
     have hzm:=HXm.out.size
     have zg:g<wr.heap.size:=by have:=X2.out.size;omega
     have S0:Hid (CellsAt [(⟨f,0,none⟩, .int .i64 W),(⟨f,1,none⟩, .int .i64 H),(⟨f,2,none⟩, .slice ad l.length c)] wr):=aA ⟨q0,q1,q2,trivial⟩
     have HRlen:Hid ((fA l W H s N a++dR l W H s a m).length≤5000000):=aA (by have:=HAl.out;have:=HRl.out;rw[List.length_append];omega)
     have hfw:f<w2.heap.size:=BF2.out.lt
     generalize hRR:fA l W H s N a++dR l W H s a m=R at *
     have HRR:=aA hRR
     generalize hQQ:kU l W H s (a:Int) (b:Int)=Q at *
     have HQQ:=aA hQQ
     generalize hWW:dM W H s (a:Int) (b:Int)=B at *
     clear q0 q1 q2 hRR hQQ hWW BFr
     go_wp2_with fail
     refine aF (S:=(CellsAt [(⟨f,0,none⟩, .int .i64 W),(⟨f,1,none⟩, .int .i64 H),(⟨f,2,none⟩, .slice ad l.length c)])) [(0,true),(1,true),(2,true),(3,true),(4,true),(5,false),(6,false),(7,false),(8,true)] (by kernel_rfl) (by kernel_rfl) (by kernel_rfl) (by decide) (fun _ _ d _ _ h=>by cases d<;>exact h) (CellsAt.ext ((Ext.refl _).drew) S0.out) (fun hHeld=> ?_)
     iterate 5 (refine SeqH.fr2 ?_;try simp only[Act.put,z_3,z_4,z_5])
     (apply SeqH.step;(·(simp only[z_0,z_1,z_2];rfl));intro K hK;go_simp;refine(HBd.out _ z_x).mono ?_;rintro e8 w8 ⟨v8,rfl,x8,o8⟩;obtain⟨a8,c8,rfl⟩:=o8.slice;have O8:=aA o8;have X8:=aA (show Ext wr w8 from z_x);clear o8 x8;go_wp2_with fail;refine hK.out _ _ (CellsAt.ext X8.out S0.out) (fun hHeld=> ?_);clear hK K;try simp only[Act.put,z_3,z_4,z_5])
     (apply SeqH.step;(·(simp only[z_0,z_1,z_2];rfl));intro K hK;go_simp;refine(HBt.out _ X8.out _ _ O8.out).mono ?_;rintro e9 w9 ⟨v9,rfl,x9,o9⟩;obtain⟨a9,c9,rfl⟩:=o9.slice;have O9:=aA o9;have X9:=aA (X8.out.trans x9);clear o9 x9;go_wp2_with fail;refine hK.out _ _ (CellsAt.ext X9.out S0.out) (fun hHeld=> ?_);clear hK K;try simp only[Act.put,z_3,z_4,z_5])
     (apply SeqH.step;(·(simp only[z_0,z_1,z_2];rfl));intro K hK;refine wY aS uV (by rfl) _ _ (by rfl) w2.heap.size (.slice ao R.length co) R Q (by rfl) (HOm.out.ext X9.out) _ (by rfl) O9.out.reads (by have:=HRlen.out;have:=HBl.out;omega) (by have:=HRlen.out;have:=HBl.out;omega) (by have:=X9.out.size;omega) ?_;intro v7 w7 o7 t7 l7;obtain⟨a7,c7,rfl⟩:=o7.slice;have S7:=aA (CellsAt.touch t7 (fun p hp h=>by have hl:=(aG HOm.out h).1;simp only[List.mem_cons,List.not_mem_nil,or_false]at hp;rcases hp with rfl|rfl|rfl<;>simp only at hl<;>omega) (CellsAt.ext X9.out S0.out));have O7:=aA o7;have X7:=aA (show Ext w2 w7 from(HXm.out.trans X9.out).of_below (t7.to_below (by have:=X9.out.size;omega) (fun q hq=>(aG HOm.out hq).1)) (Nat.le_refl _));clear o7 t7 l7;refine hK.out _ _ (S7.out) (fun hHeld=> ?_);clear hK K;try simp only[Act.put,z_3,z_4,z_5])
     iterate 1 (refine SeqH.fr2 ?_;try simp only[Act.put,z_3,z_4,z_5])
     refine SeqH.done ?_
     clear hHeld
     go_wp2
     go_roundw
     case rel=>exact⟨m+1,by have:=HB.out;(rw[show a+1+(m+1)=b+1 by omega];go_num),by have:=HB.out;omega,X7.out,by have h:=O7.out;rw[List.length_append]at h;rw[HRm.out,←List.append_assoc,HRR.out];exact h⟩
     case measure=>simp[intOf];omega
    ·have hmm:m=N-(a+1):=by have:=HB.out;omega
     go_wp2
     go_roundw
     case rel=>exact⟨a+1,by go_num,by omega,HXm.out,by rw[HRS.out,←hmm];exact HOm.out⟩
     case measure=>simp[intOf];omega
  ·have haN:a=N:=by omega
   subst haN
   obtain⟨ao,co,rfl⟩:=HO.out.slice
   go_wp2
   go_ret
   exact⟨_,rfl,(X1.out.trans X2.out).trans HX.out,HO.out.lower (by have:=X1.out.size;have:=X2.out.size;omega)⟩
end Go.Proofs.YtaellcgglldjaaaGreat

