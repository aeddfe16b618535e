/- Part of a proof: RedH RedJ TurnP RefO. -/
import Derived.Test.YtaellcgglldjaaaGreatHierFindsQ22
import Derived.Test.YtaellcgglldjaaaGreatHierFindsQ21
import Derived.Test.YtaellcgglldjaaaGreatHierFindsQ07
import Derived.Test.YtaellcgglldjaaaGreatHierFindsQ16
import Derived.Test.YtaellcgglldjaaaGreatHierFindsQ15
import Derived.Deep.CutBlock
set_option linter.all false
set_option linter.unusedVariables false
set_option linter.unusedSimpArgs false
namespace Go.Proofs.YtaellcgglldjaaaGreat
open Go.RowKit
theorem SeqT.namedM {ops:Array Oper} {Q:Exit→Act→World→Prop} {S:World→Prop} {r:Ord} {a:Act} {X:World} (h: ∀w7,MapV w7 X.heap.size (fun _ _=>none)→Ext X w7→w7.heap.size=X.heap.size+1→S w7→SeqT Tryz.prog ops Q S r a w7) (hS:S (X.alloc (.map #[] 0))):SeqT Tryz.prog ops Q S r a (X.alloc (.map #[] 0)):=
 h _ (MapV.made X) ((Ext.refl _).alloc _) (by simp) hS
theorem SeqT.namedMD {ops:Array Oper} {Q:Exit→Act→World→Prop} {S:World→Prop} {r:Ord} {a:Act} {X:World} (h: ∀w7,MapV w7 X.heap.size (fun _ _=>none)→Ext X w7→w7.heap.size=X.heap.size+1→S w7→SeqT Tryz.prog ops Q S r a w7) (hS:S (X.alloc (.map #[] 0)).drew):SeqT Tryz.prog ops Q S r a (X.alloc (.map #[] 0)).drew:=
 h _ ((MapV.made X).ext (Ext.refl _).drew) (((Ext.refl _).alloc _).drew) (by simp) hS
theorem Stand.fresh {w:World} {b m tb sc base base':Nat} {sa:Option Addr} {W H s:Int} {l:List Int} {N:Nat} (g:Good W H s l) (hN:(N:Int)=cnt W H s)
  (B:Blk w b 93 #[.int .i64 W, .int .i64 H, .slice sa l.length sc, .int .i64 W, .int .i64 H, .int .i64 s, .map (some m), .slice (some ⟨tb,0,none⟩) N N])
  (oc:Own u16G w base 84 (.slice sa l.length sc) l) (mv:MapV w m (fun _ _=>none)) (ot:Own tabE w base' 166 (.slice (some ⟨tb,0,none⟩) N N) (List.replicate N ((none,0,0),(none,0,0)))):
  Stand w ⟨b,m,tb,sa,sc,N⟩ (fun k=>(Value.slice sa l.length sc).ownBlock=some k) W H s l (fun _ _=>none) (List.replicate N ([],[])) where
 good:=g
 blk:=by rw[List.length_replicate];exact B
 cost:=oc.lower (Nat.zero_le _)
 costR:=fun k hk=>hk
 gates:=⟨_,mv,fun a b=> .inl ⟨rfl,rfl⟩⟩
 tabs:=⟨_,by rw[List.length_replicate];exact ot.lower (Nat.zero_le _),by simp,fun i a t ha ht=>by
  rw[List.getElem?_replicate]at ha ht
  split at ha
  ·next hi=>
   rw[if_pos hi]at ht
   cases ha
   cases ht
   exact⟨⟨Own.nil _ _ _ _,fun k hk=>by cases hk⟩,[],⟨Own.nil _ _ _ _,fun k hk=>by cases hk⟩,rfl,fun i s r h=>by simp at h⟩
  cases ha⟩
 num:=by rw[List.length_replicate];exact hN
 lt k hk:=(aF oc hk).2
 apart k hk hf:=by
  rcases hf with rfl|rfl|rfl
  ·exact B.ne_own oc (by decide) hk
  ·exact mv.not_own oc hk
  exact jT oc ot (by decide) hk rfl
theorem aLa {w:World} {p:Spot} {R:Nat→Prop} {W H s:Int} {l:List Int} {G:Int→Int→Option (List (aB×aB))} {T:List Tab} (_h:Stand w p R W H s l G T) {q:Nat} (h1:q≤p.b) (h2:q≤p.m) (h3:q≤p.tb): ∀k,p.F k→q≤k:=fun k hk=>by
 rcases hk with rfl|rfl|rfl
 ·exact h1
 ·exact h2
 exact h3
theorem aJr {w:World} {base:Nat} {v:Value} {l:List Bool} (h:Own boolE w base 4 v l) (hl:0<l.length): ∃g c,v= .slice (some ⟨g,0,none⟩) l.length c:=by
 rcases h.2 with⟨_,h0⟩|⟨g,cap,cur,hv,_⟩
 ·omega
 exact⟨g,cap,hv⟩
def jQ (W H:Int) (n:Nat) (s:Int):Int:=if aX W H n=0 then(if aK W H s=true then 0 else 10) else aX W H n
def aF8 (w:World) (W H s:Int) (l:List Int) (e:Ending) (w':World):Prop:=
 ∃p R,e= .returned (.tuple #[.pointer (some ⟨p.b,0,none⟩), .int .i64 0])∧WorldAt w' p R W H s l∧Ext w w'∧(∀k,p.F k→w.heap.size≤k)∧ ∀k,R k→w.heap.size≤k
set_option maxRecDepth 100000 in
set_option maxHeartbeats 2000000 in
theorem wL {w:World} {W H:Int} {a:Option Addr} {l:List Int} (c:Nat) {s:Int} (g:Good W H s l) (hr:Row16 w a l) (hs:(aD W H s l).length≤50000):
  Calls Tryz.prog 11 #[.agg #[.int .i64 W, .int .i64 H, .slice a l.length c], .int .i64 s] w (aF8 w W H s l):=by
 have ht:=g.right
 have HG:=aA g
 have HS:=aA hs
 have HR:=aA hr
 have H0:=aA g.ok
 have b0:=g.cnt
 obtain⟨N,hN⟩: ∃N:Nat,(cnt W H s).toNat=N:=⟨_,rfl⟩
 have HN:=aA (show cnt W H s=(N:Int) by omega)
 have hN1:1≤N:=by omega
 have hN2:N≤65536:=by omega
 have HO:=aA (fun(w':World) (hx:Ext w w')=>wM (w:=w') W H c (by have:=g.len;omega) (hr.ext hx))
 obtain⟨n,hn⟩: ∃z,l.length=z:=⟨_,rfl⟩
 have HL:=aA hn
 rw[hn]at H0 HO⊢
 have hmm:= @run_makeMap Tryz.prog
 clear g hs hr b0 hN hn
 go_enter Tryz.func11,Tryz.ntmps11
 go_wp2_with (first
  |(go_at_call 34;refine(cX W H a n c _).mono ?_;rintro e w3 ⟨rfl,hb3⟩;obtain⟨hc3,hf3⟩:=hb3.cells;have hz3:=hb3.size;(try simp only[zS]at hz3);have z3_0:w.heap.size<w3.heap.size:=(by omega);have X3:=aA (show Ext w w3 from z_x);rw[H0.out])
  |(go_at_call 35;refine(aLk W H s _ ht).mono ?_;rintro e w4 ⟨rfl,hb4⟩;have X4:=aA (X3.out.trans hb4);obtain⟨hc4,hf4⟩:=hb4.cells;have hz4:=hb4.size;(try simp only[zS]at hz4);have z4_0:w.heap.size<w4.heap.size:=(by omega)))
 have BF4:Hid (Blk w4 (w.heap.size) 26 #[.int .i64 W, .int .i64 H, .slice a n c]):=aA (by refine Blk.ext ?_ (Ext.trans hb3 hb4);(repeat' (first|exact Blk.new_ (by simp)|refine Blk.drew ?_|refine Blk.over ?_)))
 obtain⟨wb,hwb⟩: ∃wb,w4.alloc (.cells #[.int .i64 W, .int .i64 H, .int .i64 s] 53)=wb:=⟨_,rfl⟩
 have BP:=aA (show Blk wb w4.heap.size 53 #[.int .i64 W, .int .i64 H, .int .i64 s] by rw[←hwb];exact Blk.new_ rfl)
 have XB:=aA (show Ext w wb by rw[←hwb];exact X4.out.trans ((Ext.refl _).alloc _))
 have BF:=aA (show Blk wb w.heap.size 26 #[.int .i64 W, .int .i64 H, .slice a n c] by rw[←hwb];exact Blk.over BF4.out)
 obtain⟨pb,hpb⟩: ∃pb,w4.heap.size=pb:=⟨_,rfl⟩
 rw[hwb]
 rw[hpb]at BP⊢
 have hzb:=XB.out.size
 clear hwb hpb BF4 X3 X4 hb3 hb4 hc3 hf3 hz3 hc4 hf4 hz4 z3_0 z4_0
 have f0:=BF.out.at 0 rfl;have f1:=BF.out.at 1 rfl;have f2:=BF.out.at 2 rfl;have fz:=BF.out.lt
 have q0:=BP.out.at 0 rfl;have q1:=BP.out.at 1 rfl;have q2:=BP.out.at 2 rfl;have qz:=BP.out.lt
 have T0:=aA True.intro
 refine mA (S:=(fun W=>(∀b o,b<wb.heap.size→W.cell? ⟨b,o,none⟩=wb.cell? ⟨b,o,none⟩)∧Ext wb W)) (.take 0 (.take 2 (.take 4 (.step 1 (.step 3 (.step 5 (.step 6 (.take 7 (.step 8 (.take 9 .done) .shut)) .shut) .shut) (.step 5 (.step 3 (.step 6 (.take 7 (.step 8 (.take 9 .done) .shut)) .shut) (.step 6 (.step 3 (.take 7 (.step 8 (.take 9 .done) .shut)) .shut) .shut)) .shut)) (.step 3 (.step 1 (.step 5 (.step 6 (.take 7 (.step 8 (.take 9 .done) .shut)) .shut) .shut) .shut) .shut))))) (by kernel_rfl) (by kernel_rfl) (by kernel_rfl) (by decide) (fun _ _ d _ _ h=>by cases d<;>exact h) (by first|with_reducible exact bG _|exact aI z_x) (fun hK0=> ?_)
 iterate 3 (refine SeqT.fr1 ?_;try simp only[zz])
 (apply SeqT.step;(·(simp only[z_0,z_1,z_2];rfl)))
 (intro K hK;go_simp;refine(HO.out _ (XB.out.trans z_x)).mono ?_;rintro e w5 ⟨sa,sc,rfl,x5,o5⟩;rw[HL.out]at o5⊢;(try replace HM:=aA (HM.out.ext x5));have OC:=aA (o5.lower (base':=w.heap.size) (Nat.le_trans hzb (show Ext wb _ from z_x).size));clear o5;go_wp2_with fail;refine hK.out _ _ (aI z_x) (fun hK0=> ?_);clear hK K;(try simp only[zz]))
 (apply SeqT.step;(·(simp only[z_0,z_1,z_2];rfl)))
 (intro K hK;go_simp;refine hK.out _ _ (aI z_x) (fun hK0=> ?_);clear hK K;(try simp only[zz]);(first|refine SeqT.namedM ?_ (by assumption)|refine SeqT.namedMD ?_ (by assumption));intro w3 hm hx3 hz3 hS3;have HM:=aA hm;(try replace OC:=aA (OC.out.ext hx3));(try replace OT:=aA (OT.out.ext hx3));clear hm hz3)
 (apply SeqT.last;(·(simp only[z_0,z_1,z_2];rfl)))
 (intro K hK;go_simp;refine(fB W H s _ ht).mono ?_;rintro e w6 ⟨rfl,x6⟩;rw[HN.out];(try replace HM:=aA (HM.out.ext x6));(try replace OC:=aA (OC.out.ext x6));go_wp2_with fail;refine hK.out _ _ (aI z_x) (fun hK0=> ?_);clear hK K;(try simp only[zz]))
 (apply SeqT.last;(·(simp only[z_0,z_1,z_2];rfl)))
 (intro K hK;refine gW (by rfl) _ _ (by rfl) w.heap.size N (by rfl) (by rfl) (by omega) (Nat.le_trans hzb (show Ext wb _ from z_x).size) ?_;intro w7 o7 x7;(try replace HM:=aA (HM.out.ext x7));(try replace OC:=aA (OC.out.ext x7));have OT:=aA o7;clear o7;refine hK.out _ _ (aI z_x) (fun hK0=> ?_);clear hK K;(try simp only[zz]))
 iterate 1 (refine SeqT.fr1 ?_;try simp only[zz])
 (apply SeqT.last;(·(simp only[z_0,z_1,z_2];rfl)))
 (intro K hK;go_simp;refine hK.out _ _ (aI z_x) (fun hK0=> ?_);clear hK K;(try simp only[zz]);(first|refine SeqT.named ?_ (by assumption)|refine SeqT.namedD ?_ (by assumption));intro w8 dt hx8 hz8 hS8;have DT:=aA dt;clear dt hz8;replace HM:=aA (HM.out.ext hx8);replace OC:=aA (OC.out.ext hx8);replace OT:=aA (OT.out.ext hx8);have X8:=aA (show Ext wb w8 from z_x);have P8:=aA (BP.out.ext X8.out);replace q0:=P8.out.at 0 rfl;replace q1:=P8.out.at 1 rfl;replace q2:=P8.out.at 2 rfl;replace qz:=P8.out.lt)
 iterate 1 (refine SeqT.fr1 ?_;try simp only[zz])
 refine SeqT.fin ?_
 rotate_left
 (apply SeqT.last;(·(simp only[z_0,z_1,z_2];rfl)))
 (intro K hK;go_simp;refine(fB W H s _ ht).mono ?_;rintro e w6 ⟨rfl,x6⟩;rw[HN.out];(try replace HM:=aA (HM.out.ext x6));(try replace OC:=aA (OC.out.ext x6));go_wp2_with fail;refine hK.out _ _ (aI z_x) (fun hK0=> ?_);clear hK K;(try simp only[zz]))
 (apply SeqT.step;(·(simp only[z_0,z_1,z_2];rfl)))
 (intro K hK;go_simp;refine hK.out _ _ (aI z_x) (fun hK0=> ?_);clear hK K;(try simp only[zz]);(first|refine SeqT.namedM ?_ (by assumption)|refine SeqT.namedMD ?_ (by assumption));intro w3 hm hx3 hz3 hS3;have HM:=aA hm;(try replace OC:=aA (OC.out.ext hx3));(try replace OT:=aA (OT.out.ext hx3));clear hm hz3)
 (apply SeqT.last;(·(simp only[z_0,z_1,z_2];rfl)))
 (intro K hK;refine gW (by rfl) _ _ (by rfl) w.heap.size N (by rfl) (by rfl) (by omega) (Nat.le_trans hzb (show Ext wb _ from z_x).size) ?_;intro w7 o7 x7;(try replace HM:=aA (HM.out.ext x7));(try replace OC:=aA (OC.out.ext x7));have OT:=aA o7;clear o7;refine hK.out _ _ (aI z_x) (fun hK0=> ?_);clear hK K;(try simp only[zz]))
 iterate 1 (refine SeqT.fr1 ?_;try simp only[zz])
 (apply SeqT.last;(·(simp only[z_0,z_1,z_2];rfl)))
 (intro K hK;go_simp;refine hK.out _ _ (aI z_x) (fun hK0=> ?_);clear hK K;(try simp only[zz]);(first|refine SeqT.named ?_ (by assumption)|refine SeqT.namedD ?_ (by assumption));intro w8 dt hx8 hz8 hS8;have DT:=aA dt;clear dt hz8;replace HM:=aA (HM.out.ext hx8);replace OC:=aA (OC.out.ext hx8);replace OT:=aA (OT.out.ext hx8);have X8:=aA (show Ext wb w8 from z_x);have P8:=aA (BP.out.ext X8.out);replace q0:=P8.out.at 0 rfl;replace q1:=P8.out.at 1 rfl;replace q2:=P8.out.at 2 rfl;replace qz:=P8.out.lt)
 iterate 1 (refine SeqT.fr1 ?_;try simp only[zz])
 refine SeqT.fin ?_
 rotate_left
 (apply SeqT.last;(·(simp only[z_0,z_1,z_2];rfl)))
 (intro K hK;refine gW (by rfl) _ _ (by rfl) w.heap.size N (by rfl) (by rfl) (by omega) (Nat.le_trans hzb (show Ext wb _ from z_x).size) ?_;intro w7 o7 x7;(try replace HM:=aA (HM.out.ext x7));(try replace OC:=aA (OC.out.ext x7));have OT:=aA o7;clear o7;refine hK.out _ _ (aI z_x) (fun hK0=> ?_);clear hK K;(try simp only[zz]))
 (apply SeqT.last;(·(simp only[z_0,z_1,z_2];rfl)))
 (intro K hK;go_simp;refine hK.out _ _ (aI z_x) (fun hK0=> ?_);clear hK K;(try simp only[zz]);(first|refine SeqT.namedM ?_ (by assumption)|refine SeqT.namedMD ?_ (by assumption));intro w3 hm hx3 hz3 hS3;have HM:=aA hm;(try replace OC:=aA (OC.out.ext hx3));(try replace OT:=aA (OT.out.ext hx3));clear hm hz3)
 iterate 1 (refine SeqT.fr1 ?_;try simp only[zz])
 (apply SeqT.last;(·(simp only[z_0,z_1,z_2];rfl)))
 (intro K hK;go_simp;refine hK.out _ _ (aI z_x) (fun hK0=> ?_);clear hK K;(try simp only[zz]);(first|refine SeqT.named ?_ (by assumption)|refine SeqT.namedD ?_ (by assumption));intro w8 dt hx8 hz8 hS8;have DT:=aA dt;clear dt hz8;replace HM:=aA (HM.out.ext hx8);replace OC:=aA (OC.out.ext hx8);replace OT:=aA (OT.out.ext hx8);have X8:=aA (show Ext wb w8 from z_x);have P8:=aA (BP.out.ext X8.out);replace q0:=P8.out.at 0 rfl;replace q1:=P8.out.at 1 rfl;replace q2:=P8.out.at 2 rfl;replace qz:=P8.out.lt)
 iterate 1 (refine SeqT.fr1 ?_;try simp only[zz])
 refine SeqT.fin ?_
 rotate_left
 (apply SeqT.last;(·(simp only[z_0,z_1,z_2];rfl)))
 (intro K hK;go_simp;refine hK.out _ _ (aI z_x) (fun hK0=> ?_);clear hK K;(try simp only[zz]);(first|refine SeqT.namedM ?_ (by assumption)|refine SeqT.namedMD ?_ (by assumption));intro w3 hm hx3 hz3 hS3;have HM:=aA hm;(try replace OC:=aA (OC.out.ext hx3));(try replace OT:=aA (OT.out.ext hx3));clear hm hz3)
 (apply SeqT.last;(·(simp only[z_0,z_1,z_2];rfl)))
 (intro K hK;go_simp;refine(HO.out _ (XB.out.trans z_x)).mono ?_;rintro e w5 ⟨sa,sc,rfl,x5,o5⟩;rw[HL.out]at o5⊢;(try replace HM:=aA (HM.out.ext x5));have OC:=aA (o5.lower (base':=w.heap.size) (Nat.le_trans hzb (show Ext wb _ from z_x).size));clear o5;go_wp2_with fail;refine hK.out _ _ (aI z_x) (fun hK0=> ?_);clear hK K;(try simp only[zz]))
 (apply SeqT.last;(·(simp only[z_0,z_1,z_2];rfl)))
 (intro K hK;go_simp;refine(fB W H s _ ht).mono ?_;rintro e w6 ⟨rfl,x6⟩;rw[HN.out];(try replace HM:=aA (HM.out.ext x6));(try replace OC:=aA (OC.out.ext x6));go_wp2_with fail;refine hK.out _ _ (aI z_x) (fun hK0=> ?_);clear hK K;(try simp only[zz]))
 (apply SeqT.last;(·(simp only[z_0,z_1,z_2];rfl)))
 (intro K hK;refine gW (by rfl) _ _ (by rfl) w.heap.size N (by rfl) (by rfl) (by omega) (Nat.le_trans hzb (show Ext wb _ from z_x).size) ?_;intro w7 o7 x7;(try replace HM:=aA (HM.out.ext x7));(try replace OC:=aA (OC.out.ext x7));have OT:=aA o7;clear o7;refine hK.out _ _ (aI z_x) (fun hK0=> ?_);clear hK K;(try simp only[zz]))
 iterate 1 (refine SeqT.fr1 ?_;try simp only[zz])
 (apply SeqT.last;(·(simp only[z_0,z_1,z_2];rfl)))
 (intro K hK;go_simp;refine hK.out _ _ (aI z_x) (fun hK0=> ?_);clear hK K;(try simp only[zz]);(first|refine SeqT.named ?_ (by assumption)|refine SeqT.namedD ?_ (by assumption));intro w8 dt hx8 hz8 hS8;have DT:=aA dt;clear dt hz8;replace HM:=aA (HM.out.ext hx8);replace OC:=aA (OC.out.ext hx8);replace OT:=aA (OT.out.ext hx8);have X8:=aA (show Ext wb w8 from z_x);have P8:=aA (BP.out.ext X8.out);replace q0:=P8.out.at 0 rfl;replace q1:=P8.out.at 1 rfl;replace q2:=P8.out.at 2 rfl;replace qz:=P8.out.lt)
 iterate 1 (refine SeqT.fr1 ?_;try simp only[zz])
 refine SeqT.fin ?_
 all_goals
  have ST8:=aA (Stand.fresh (w:=w8) HG.out HN.out.symm (by rw[HL.out];exact DT.out) (by rw[HL.out];exact OC.out) HM.out OT.out)
  have XW:=aA (XB.out.trans X8.out)
  have s3:=hx3.size
  have s5:=x5.size
  have s6:=x6.size
  have s7:=x7.size
  have s8:=hx8.size
  (try simp only[World.size_drew]at s3 s5 s6 s7 s8)
  have HOC:=aA (fun k (hk:(Value.slice sa l.length sc).ownBlock=some k)=>(aF OC.out (by rw[HL.out]at hk;exact hk)).1)
  clear hK0 X8 DT OC HM OT
  (try go_wp2_with fail)
  refine(fB W H s _ ht).mono ?_
  rintro e w9 ⟨rfl,x9⟩
  rw[HN.out]
  have c9:=(x9.cell (p:=⟨w8.heap.size,0,none⟩) (by simp)).trans ((Blk.new w8 4 #[.bool true]).at 0 rfl)
  have z9:w8.heap.size<w9.heap.size:=by have:=x9.size;simp at this;omega
  have X89:=aA (show Ext w8 w9 from z_x)
  clear x9 q0 q1 q2 qz P8
  go_wp2_with fail
  refine(aC5 w8.heap.size true N hN1 (by omega) z9 c9).mono ?_
  rintro e w10 ⟨v10,rfl,x10,o10⟩
  obtain⟨g10,c10,rfl⟩:=aJr o10 (by simp;omega)
  rw[List.length_replicate]
  rw[List.length_replicate]at o10
  have X810:=aA (X89.out.trans x10)
  have ST10:=aA (ST8.out.ext X810.out)
  have z10:=x10.size
  have g10z:=aF o10 (k:=g10) rfl
  have HB:=aFp ST10.out (tg:=g10) (tc:=c10) (N:=N) (tu:=List.replicate N true) (by simp) (by simp) (o10.lower (Nat.zero_le _)) (fun hf=>by have:=ST8.out.foot hf;omega) (fun a b hn=> .inl (by
   have h1:=hn.1
   have h2:=hn.2.1
   have h3:=hn.2.2.1
   rw[HN.out]at h2
   rw[List.getD_eq_getElem?_getD,List.getElem?_replicate,if_pos (by omega)]
   rfl)) HS.out
  have HB:=aA HB
  clear o10 x10 c9
  go_wp2_with fail
  refine(HB.out).mono ?_
  rintro e w11 ⟨v,R',G',T',rfl,ho,hst,hgf,htt,tt,hrr⟩
  obtain⟨va,vc,rfl⟩:=ho.slice
  have LF:=aA (aLa ST8.out (q:=w.heap.size) (by simp only;omega) (by simp only;omega) (by simp only;omega))
  have XX:=aA ((XW.out.trans X810.out).of_below (tt.to_below (Nat.le_trans XW.out.size X810.out.size) LF.out) (Nat.le_refl _))
  have HST:=aA hst
  have HGF:=aA hgf
  have HTT:=aA htt
  have HRR:=aA hrr
  clear ho hst hgf htt tt hrr HB
  go_wp2_with fail
  go_ret2
  refine⟨_,R',?_,⟨G',T',HST.out,HGF.out,fun i hi=> ?_⟩,XX.out,LF.out,fun k hk=>(HRR.out k hk).elim (fun h=>HOC.out k h) (fun h=>Nat.le_trans (Nat.le_trans XW.out.size X810.out.size) h)⟩
  ·rfl
  have hi':i<N:=by have:=HST.out.num;have:=HN.out;omega
  have h:=HTT.out i (by rw[List.length_replicate];exact hi')
  rw[h]
  unfold zQ lD
  rw[List.getD_eq_getElem?_getD,List.getElem?_replicate,if_pos hi']
  rfl
end Go.Proofs.YtaellcgglldjaaaGreat

namespace Go.Proofs.YtaellcgglldjaaaGreat
open Go.RowKit
theorem rB {g q n c:Nat} (h:(Value.slice (some ⟨g,0,none⟩) n c).ownBlock=some q):g=q:=by simpa [Value.ownBlock] using h
theorem aMl (w:World) (g i:Nat) (u:Value):Touch (fun j=>j=g) w (w.setCell ⟨g,i,none⟩ u):=(Touch.refl (fun j=>j=g) w).setCell (p:=⟨g,i,none⟩) (.inl rfl) u
def TabsAt (w:World) (g N c:Nat) (T:List Tab):Prop:= ∃(R:Nat→Prop) (ts:List (Sl×Sl)),Own tabE w 0 166 (.slice (some ⟨g,0,none⟩) N c) ts∧TabsR R w ts T
theorem TabsAt.ext {w w':World} {g N c:Nat} {T:List Tab} (h:TabsAt w g N c T) (x:Ext w w'):TabsAt w' g N c T:=by
 obtain⟨R,ts,h1,h2⟩:=h
 exact⟨R,ts,h1.ext x,h2.touch (Touch.of_ext (S:=fun _=>False) x) (fun _ _ x=>x)⟩
theorem TabsAt.at {w:World} {g N c k:Nat} {T:List Tab} {t:Tab} (h:TabsAt w g N c T) (ht:T[k]? =some t):
  ∃a n b m,w.cell? ⟨g,k*2,none⟩=some (.slice a t.1.length n)∧w.cell? ⟨g,k*2+1,none⟩=some (.slice b t.2.length m)∧RowC w a t.1∧RowsU w b t.2:=by
 obtain⟨R,ts,h1,h2,h3⟩:=h
 obtain⟨q,hq⟩: ∃q,ts[k]? =some q:=⟨_,zG (by rw[h2];exact(zJ ht).1)⟩
 have CA:=jU h1 hq
 obtain⟨⟨o,_⟩,r⟩:=h3 k q t hq ht
 obtain⟨⟨q1,q2,q3⟩,⟨q4,q5,q6⟩⟩:=q
 simp only[slV]at CA o r
 obtain⟨e1,rc⟩:=Reads.rowC o.reads
 have ra:=r.at0
 obtain⟨_,_,e2,_⟩:=iR ra
 have ru:=ra.u
 have e3:q5=t.2.length:=by injection e2
 subst e1 e3
 exact⟨q1,q3,q4,q6,CA.1,CA.2,rc,ru⟩
theorem TabsR.snoc {R:Nat→Prop} {w:World} {ts:List (Sl×Sl)} {T:List Tab} {s:Sl×Sl} {t:Tab} (h:TabsR R w ts T) (hs:TabR R w s t):TabsR R w (ts++[s]) (T++[t]):=by
 refine⟨by simp[h.1],fun i x y hx hy=> ?_⟩
 by_cases hi:i<ts.length
 ·rw[List.getElem?_append_left hi]at hx
  rw[List.getElem?_append_left (by rw[←h.1];exact hi)]at hy
  exact h.2 i x y hx hy
 rw[List.getElem?_append_right (by omega)]at hx
 rw[List.getElem?_append_right (by rw[←h.1];omega)]at hy
 have h0:i-ts.length=0:=by
  have:=(zJ hx).1
  simp at this
  omega
 rw[h0]at hx
 rw[←h.1,h0]at hy
 simp at hx hy
 subst hx hy
 exact hs
end Go.Proofs.YtaellcgglldjaaaGreat

namespace Go.Proofs.YtaellcgglldjaaaGreat
open Go.RowKit
theorem pP {α:Type} (E:Enc α) {P:Program} {t e:TypeId} {z:Value} {bytes:Nat} (T:cH P t e z E.size bytes) {ops:Array Oper} {o:Oper} {a:Act} {K:Act→World→Prop} {Q:Exit→Act→World→Prop} {F:Prop} {w:World}
  (hgd:o.guard=none) (s x:Operand) (ho:o.op= .call {callee:= .builtin .append,args:= #[s,x],argTypes:= #[t,t]})
  (base:Nat) (v:Value) (l1 l2:List α) (hs:a.eval s=v) (hown:Own E w base e v l1) (u:Value) (hx:a.eval x=u) (hr:Reads E w u l2)
  (hlen:(l1.length+l2.length)*bytes≤140737488355328) (hl:l1.length+l2.length≤1000000000) (hbase:base≤w.heap.size)
  (h: ∀v' w',Own E w' base e v' (l1++l2)→Touch (fun k=>v.ownBlock=some k) w w'→(∀k,v'.ownBlock=some k→v.ownBlock=some k∨w.heap.size≤k)→K (a.put o.dst v') w'):if Region.wanted o (yielded ops a.tmps)=true then Oper.wp P o a w K Q else F:=by
 have hw:Region.wanted o (yielded ops a.tmps)=true:=by simp[Region.wanted,hgd]
 rw[if_pos hw]
 rcases hr with⟨rfl,rfl⟩|⟨b,off,c,rfl,hb,hc⟩
 ·obtain⟨i0,hi,_,_,_⟩:=info_parts T.info
  have hr:=run_append_owned_none (P:=P) (w:=w) base t o.type e i0 E.size T.under hi v l1.length (l1.flatMap E.cells) hown
  unfold Oper.wp execOp
  simp only[ho,resolve,invoke,builtin,Sem.run_bind,Sem.run_pure,Result.andThen_ok,List.map_toArray,List.map_cons,List.map_nil,hs,hx,hr]
  exact h v w (by rw[List.append_nil];exact hown) (Touch.refl _ w) (fun k hk=> .inl hk)
 obtain⟨i0,hi,hz0,hz1,hz2⟩:=info_parts T.info
 have hcells: ∀(j:Nat) (u:Value),(l2.flatMap E.cells)[j]? =some u→w.cell? ((⟨b,off,none⟩:Addr).add j)=some u:=by
   intro j u hu
   have hadd:(⟨b,off,none⟩:Addr).add j=⟨b,off+j,none⟩:=by unfold Addr.add;split<;>simp_all
   rw[hadd]
   have hpos:0<E.size:=T.pos
   have hjl:j<l2.length*E.size:=by
    have:=(zJ hu).1
    rw[E.flat_len]at this
    exact this
   have hk:j/E.size<l2.length:=Nat.div_lt_of_lt_mul (by rw[Nat.mul_comm];exact hjl)
   have hm:j% E.size<E.size:=Nat.mod_lt _ hpos
   have hj:j/E.size*E.size+j% E.size=j:=by rw[Nat.mul_comm];exact Nat.div_add_mod j E.size
   have hy:l2[j/E.size]? =some l2[j/E.size]:=zG hk
   obtain⟨u',hu'⟩: ∃u',(E.cells (l2[j/E.size]'hk))[j% E.size]? =some u':=⟨_,zG (Nat.lt_of_lt_of_eq hm (E.len _).symm)⟩
   have h2:=cM E l2 _ _ hy _ _ hu'
   rw[hj,hu]at h2
   injection h2 with h2
   have:=hc _ _ hy _ _ hu'
   rw[hj]at this
   rw[h2]
   exact this
 obtain⟨v',w',hr,hown',hg,_,hat⟩:=run_append_own_at (P:=P) w base t o.type e i0 z E.size bytes T.under hi hz0 hz1 hz2 T.zs T.pos v l1.length (l1.flatMap E.cells) hown ⟨b,off,none⟩ l2.length c (l2.flatMap E.cells) (E.flat_len l2) hcells (E.flat_one l2) (by unfold maxLen;omega) hlen hbase
 unfold Oper.wp execOp
 simp only[ho,resolve,invoke,builtin,Sem.run_bind,Sem.run_pure,Result.andThen_ok,List.map_toArray,List.map_cons,List.map_nil,hs,hx,hr]
 have hown'':Own E w' base e v' (l1++l2):=by
  unfold Own
  rw[List.length_append,List.flatMap_append]
  exact hown'
 refine h v' w' hown'' ((Touch.refl _ w).grown hg (fun k hk=> .inl hk)) (fun k hk=> ?_)
 rcases hat with hat|hat
 ·exact .inl (by rw[←hat];exact hk)
 rw[hat]at hk;injection hk with hk;exact .inr (by omega)
theorem SeqT.namedExt {P:Program} {ops:Array Oper} {Q:Exit→Act→World→Prop} {S:World→Prop} {r:Ord} {a:Act} {X w0:World} (hx:Ext w0 X) (h: ∀w7,w7=X→Ext w0 w7→SeqT P ops Q S r a w7):SeqT P ops Q S r a X:=h _ rfl hx
theorem aAt (w:World) (g:Nat) (x y z:Value):Touch (fun j=>j=g) w (((w.setCell ⟨g,0,none⟩ x).setCell ⟨g,1,none⟩ y).setCell ⟨g,2,none⟩ z):=
 (((Touch.refl (fun j=>j=g) w).setCell (p:=⟨g,0,none⟩) (.inl rfl) x).setCell (p:=⟨g,1,none⟩) (.inl rfl) y).setCell (p:=⟨g,2,none⟩) (.inl rfl) z
theorem yD {w:World} {g q:Nat} {t:TypeId} {cs:Array Value} (_B:Hid (Blk w g t cs)) (h:q≤g):q≤g:=h
def TurnsAt (w:World) (a:Option Addr) (L:List (List (Int×Int)×Bool)):Prop:=
 0<L.length→ ∃b off,a=some ⟨b,off,none⟩∧b<w.heap.size∧ ∀k (h:k<L.length),∃sa sc,w.cell? ⟨b,off+k*2,none⟩=some (.slice sa L[k].1.length sc)∧w.cell? ⟨b,off+k*2+1,none⟩=some (.bool L[k].2)∧RowC w sa L[k].1
theorem TurnsAt.ext {w w':World} {a:Option Addr} {L:List (List (Int×Int)×Bool)} (h:TurnsAt w a L) (x:Ext w w'):TurnsAt w' a L:=fun h0=>by
 obtain⟨b,off,e,hb,hc⟩:=h h0
 refine⟨b,off,e,Nat.lt_of_lt_of_le hb x.size,fun k hk=> ?_⟩
 obtain⟨sa,sc,c0,c1,r⟩:=hc k hk
 exact⟨sa,sc,(x.cell (p:=⟨b,_,none⟩) hb).trans c0,(x.cell (p:=⟨b,_,none⟩) hb).trans c1,r.ext x⟩
end Go.Proofs.YtaellcgglldjaaaGreat

namespace Go.Proofs.YtaellcgglldjaaaGreat
open Go.RowKit
set_option maxRecDepth 100000 in
theorem tT (W H:Int) (ad:Option Addr) (n c:Nat) (a:Option Addr) (cc:Nat) (w:World):
  Calls Tryz.prog 93 #[.agg #[.int .i64 W, .int .i64 H, .slice ad n c], .slice a 0 cc] w (lR w []):=by
 go_enter Tryz.func93,Tryz.ntmps93
 go_wp2
 go_loopw [5,6] (fun o i wr=>i= .int .i64 0∧Ext w wr∧Own aT wr w.heap.size 132 o []) (fun _ _ _=>0)
 case atStart=>exact⟨rfl,z_x,(Own.lit0 aT (w.alloc (.cells #[.int .i64 W, .int .i64 H, .slice ad n c] 26)) w.heap.size _ _ (by simp) (by omega))⟩
 obtain⟨rfl,hx,ho⟩:=hrel
 have HX:=aA hx
 have HO:=aA ho
 obtain⟨ao,co,rfl⟩:=ho.slice
 clear hx ho
 go_wp2
 go_ret
 exact⟨_,rfl,HX.out,HO.out⟩
theorem aKg {W H s x y:Int} (hr:aK W H s=true) (h0:0≤x) (hxy:x<y) (h1:y<cnt W H s) (k:Nat) (p:aB×aB) (hk:(dT W H s x y)[k]? =some p):sT W H p:=by
 unfold dT at hk
 rw[show min x y=x by omega,show max x y=y by omega]at hk
 by_cases hn:eP (aQ W H s x) y=true
 ·rw[if_pos hn]at hk
  exact vO hr h0 hxy h1 hn k p hk
 rw[if_neg hn]at hk
 simp at hk
theorem wZ {W H s x y:Int} (hr:aK W H s=true) (h0:0≤x) (hxy:x<y) (h1:y<cnt W H s):(dT W H s x y).length≤16:=by
 unfold dT
 rw[show min x y=x by omega,show max x y=y by omega]
 by_cases hn:eP (aQ W H s x) y=true
 ·rw[if_pos hn];exact nM hr h0 (by omega)
 rw[if_neg hn];simp
theorem aIm {l:List Int} {W H s x y:Int} (hr:aK W H s=true) (h0:0≤x) (hxy:x<y) (h1:y<cnt W H s):(lH l W H s x y).length≤16:=by
 unfold lH
 have h:=wZ (W:=W) (H:=H) (s:=s) hr h0 hxy h1
 exact Nat.le_trans (zY _ _ _) h
theorem xI (W H:Int) (ad:Option Addr) (l:List Int) (c:Nat) (s x y:Int) (base:Nat) (v:Value) (w:World) (hm:bW W H=true) (hl:(l.length:Int)=W*H) (hr:Row16 w ad l) (hu:cV l) (ht:aK W H s=true) (h0:0≤x) (hxy:x<y) (h1:y<cnt W H s)
  (hv:Own aT w base 225 v (dT W H s x y)):
  Calls Tryz.prog 93 #[.agg #[.int .i64 W, .int .i64 H, .slice ad l.length c],v] w (lR w (lH l W H s x y)):=by
 have hln:=wZ (W:=W) (H:=H) (s:=s) ht h0 hxy h1
 by_cases hp:0<(dT W H s x y).length
 ·obtain⟨g,cc,rfl,_,hg⟩:=hv.pos hp
  exact uS W H ad l c g cc (dT W H s x y) w hm hl hr hu (by omega) hg hv.reads.pairs.2 (aKg ht h0 hxy h1)
 have hz:dT W H s x y=[]:=List.eq_nil_of_length_eq_zero (by omega)
 obtain⟨a,cc,rfl⟩:=hv.slice
 have e:lH l W H s x y=[]:=by unfold lH;rw[hz];rfl
 rw[e,hz]
 exact tT W H ad l.length c a cc w
theorem rU (l:List Int) (W H s:Int) (a m:Nat):dY l W H s a (m+1)=dY l W H s a m++lH l W H s (a:Int) ((a+1+m:Nat):Int):=by
 unfold dY
 rw[List.range'_concat,List.flatMap_append]
 simp
theorem aC3 (l:List Int) (W H s:Int) (a m k:Nat):(dY l W H s a m).length≤(dY l W H s a (m+k)).length:=by
 induction k with
 |zero=>exact Nat.le_refl _
 |succ k ih=>rw[←Nat.add_assoc,rU,List.length_append];omega
theorem tX {l:List Int} {W H s:Int} (hr:aK W H s=true) {N a m:Nat} (hN:cnt W H s=(N:Int)) (ha:a<N) (hm:m≤N-(a+1)):(dY l W H s a m).length≤64:=by
 have h1:=aC3 l W H s a m (N-(a+1)-m)
 rw[show m+(N-(a+1)-m)=N-(a+1) by omega,wO hr hN ha]at h1
 exact Nat.le_trans h1 (aAc hr (by omega) (by omega))
theorem rT (l:List Int) (W H s:Int) (N n:Nat):fK l W H s N (n+1)=fK l W H s N n++dY l W H s n (N-(n+1)):=by
 unfold fK;rw[List.range_succ,List.flatMap_append];simp
theorem tV {l:List Int} {W H s:Int} (hr:aK W H s=true) {N:Nat} (hN:cnt W H s=(N:Int)): ∀n,n≤N→(fK l W H s N n).length≤n*64
 |0,_=>by simp[fK]
 |n+1,h=>by
  rw[rT,List.length_append]
  have h1:=tV hr hN (l:=l) n (by omega)
  have h2:=tX (l:=l) hr hN (show n<N by omega) (Nat.le_refl _)
  omega
set_option maxRecDepth 100000 in
set_option maxHeartbeats 1500000 in
theorem aHe (W H:Int) (ad:Option Addr) (l:List Int) (c:Nat) (s:Int) (N:Nat) (w:World) (hm:bW W H=true) (hl:(l.length:Int)=W*H) (hr:Row16 w ad l) (hu:cV l) (ht:aK W H s=true) (hN:(bF W H s).length=N):
  Calls Tryz.prog 47 #[.agg #[.int .i64 W, .int .i64 H, .slice ad l.length c], .int .i64 s] w (lR w (fK l W H s N N)):=by
 have HR:=aA hr
 have HU:=aA hu
 have b0:=mI ht
 have HC:=aA (show cnt W H s=(N:Int) by rw[←cQ ht,hN])
 have hN1:1≤N:=by have:=HC.out;omega
 have hN2:N≤65536:=by have:=HC.out;omega
 have HN:=aA hN
 have HL:=aA hl
 clear hr hu b0 hN hl
 go_enter Tryz.func47,Tryz.ntmps47
 go_wp2_with fail
 have BF:Hid (Blk (w.alloc (.cells #[.int .i64 W, .int .i64 H, .slice ad l.length c] 26)) w.heap.size 26 #[.int .i64 W, .int .i64 H, .slice ad l.length c]):=aA (Blk.new_ rfl)
 have X1:Hid (Ext w (w.alloc (.cells #[.int .i64 W, .int .i64 H, .slice ad l.length c] 26))):=aA z_x
 obtain⟨w1,hw1⟩: ∃w1,w.alloc (.cells #[.int .i64 W, .int .i64 H, .slice ad l.length c] 26)=w1:=⟨_,rfl⟩
 obtain⟨f,hf⟩: ∃f,w.heap.size=f:=⟨_,rfl⟩
 rw[hw1]at BF X1⊢
 rw[hf]at BF⊢
 clear hw1 hf
 refine(tU _ _ _ _ ht).mono ?_
 rintro e w2 ⟨v2,rfl,x2,o2⟩
 have o2':Own aT w2 w1.heap.size 71 v2 (bF W H s):=o2
 obtain⟨g,cg,rfl,hg1,hg2⟩:=o2'.pos (by rw[HN.out];omega)
 rw[HN.out]at o2'⊢
 have O2:=aA o2'
 have X2:=aA (show Ext w1 w2 from x2)
 have BF2:=aA (BF.out.ext x2)
 clear o2 o2' x2
 go_wp2_with fail
 have OB:Hid (Own aT (w2.alloc (.cells #[] 132)) w2.heap.size 132 (.slice (some ⟨w2.heap.size,0,none⟩) 0 0) []):=aA (Own.lit0 aT w2 _ _ _ rfl (Nat.le_refl _))
 have XB:Hid (Ext w2 (w2.alloc (.cells #[] 132))):=aA ((Ext.refl _).alloc _)
 go_loopw [6,7] (fun o i wr=> ∃a:Nat,i= .int .i64 (a:Int)∧a≤N∧Ext w2 wr∧Own aT wr w2.heap.size 132 o (fK l W H s N a)) (fun _ i _=>N-(intOf i).toNat)
 case atStart=>exact⟨0,rfl,Nat.zero_le _,XB.out,by simpa [fK] using OB.out⟩
 obtain⟨a,rfl,ha,hx,ho⟩:=hrel
 have HX:=aA hx
 have HO:=aA ho
 clear hx ho XB OB
 by_cases hlt:a<N
 ·have HRS:=aA (rT l W H s N a)
  have HAl:=aA (tV (l:=l) ht HC.out a ha)
  go_wp2_with fail
  go_loopw [6,8] (fun o i wy=> ∃m:Nat,i= .int .i64 ((a+1+m:Nat):Int)∧a+1+m≤N∧Ext w2 wy∧Own aT wy w2.heap.size 132 o (fK l W H s N a++dY l W H s a m)) (fun _ i _=>N-(intOf i).toNat)
  case atStart=>exact⟨0,by go_num,by omega,HX.out,by simpa [dY] using HO.out⟩
  obtain⟨m,rfl,hm',hx,ho⟩:=hrel
  have HXm:=aA hx
  have HOm:=aA ho
  obtain⟨b,hb⟩: ∃b,a+1+m=b:=⟨_,rfl⟩
  rw[hb]at hm'⊢
  have HB:=aA hb
  have hab:a<b:=by omega
  have BFr:=aA (BF2.out.ext hx)
  have q0:=BFr.out.at 0 rfl;have q1:=BFr.out.at 1 rfl;have q2:=BFr.out.at 2 rfl;have qz:=BFr.out.lt
  clear hx ho hb
  by_cases hltb:b<N
  ·have hbc:(b:Int)<cnt W H s:=by rw[HC.out];omega
   have HRm:=aA (show dY l W H s a (m+1)=dY l W H s a m++lH l W H s (a:Int) (b:Int) by rw[rU,HB.out])
   have HRl:=aA (tX (l:=l) ht HC.out hlt (m:=m) (by have:=HB.out;omega))
   have HBl:=aA (aIm (l:=l) ht (x:=(a:Int)) (y:=(b:Int)) (by omega) (by omega) hbc)
   have HBd:=aA (fun(w':World) (x:Ext wr w')=>aBy g cg N W H s a b w' ht HN.out hlt hltb (O2.out.reads.ext (HXm.out.trans x)))
   have HBt:=aA (fun(w':World) (x:Ext wr w') (base:Nat) (v:Value) (hv:Own aT w' base 225 v (dT W H s (a:Int) (b:Int)))=>xI W H ad l c s (a:Int) (b:Int) base v w' hm HL.out (HR.out.ext (((X1.out.trans X2.out).trans HXm.out).trans x)) HU.out ht (by omega) (by omega) hbc hv)
   obtain⟨ao,co,rfl⟩:=HOm.out.slice
   have hzm:=HXm.out.size
   have zg:g<wr.heap.size:=by have:=X2.out.size;omega
   have S0:Hid (CellsAt [(⟨f,0,none⟩, .int .i64 W),(⟨f,1,none⟩, .int .i64 H),(⟨f,2,none⟩, .slice ad l.length c)] wr):=aA ⟨q0,q1,q2,trivial⟩
   have HRlen:Hid ((fK l W H s N a++dY l W H s a m).length≤5000000):=aA (by have:=HAl.out;have:=HRl.out;rw[List.length_append];omega)
   have hfw:f<w2.heap.size:=BF2.out.lt
   generalize hRR:fK l W H s N a++dY l W H s a m=R at *
   have HRR:=aA hRR
   generalize hQQ:lH l W H s (a:Int) (b:Int)=Q at *
   have HQQ:=aA hQQ
   generalize hWW:dT W H s (a:Int) (b:Int)=B at *
   clear q0 q1 q2 hRR hQQ hWW BFr
   go_wp2_with fail
   refine bM (S:=(CellsAt [(⟨f,0,none⟩, .int .i64 W),(⟨f,1,none⟩, .int .i64 H),(⟨f,2,none⟩, .slice ad l.length c)])) [(0,true),(1,true),(2,true),(3,true),(4,true),(5,false),(6,false),(7,false),(8,true)] (by kernel_rfl) (by kernel_rfl) (by kernel_rfl) (by decide) (fun _ _ d _ _ h=>by cases d<;>exact h) (CellsAt.ext ((Ext.refl _).drew) S0.out) (fun hK0=> ?_)
   iterate 5 (refine SeqH.fr2 ?_;try simp only[zz])
   (refine aP ?_;intro K hK;go_simp;refine(HBd.out _ z_x).mono ?_;rintro e8 w8 ⟨v8,rfl,x8,o8⟩;obtain⟨a8,c8,rfl⟩:=o8.slice;have O8:=aA o8;have X8:=aA (show Ext wr w8 from z_x);clear o8 x8;go_wp2_with fail;refine hK.out _ _ (CellsAt.ext X8.out S0.out) (fun hK0=> ?_);clear hK K;try simp only[zz])
   (refine aP ?_;intro K hK;go_simp;refine(HBt.out _ X8.out _ _ O8.out).mono ?_;rintro e9 w9 ⟨v9,rfl,x9,o9⟩;obtain⟨a9,c9,rfl⟩:=o9.slice;have O9:=aA o9;have X9:=aA (X8.out.trans x9);clear o9 x9;go_wp2_with fail;refine hK.out _ _ (CellsAt.ext X9.out S0.out) (fun hK0=> ?_);clear hK K;try simp only[zz])
   (refine aP ?_;intro K hK;refine pP aT vH (by rfl) _ _ (by rfl) w2.heap.size (.slice ao R.length co) R Q (by rfl) (HOm.out.ext X9.out) _ (by rfl) O9.out.reads (by have:=HRlen.out;have:=HBl.out;omega) (by have:=HRlen.out;have:=HBl.out;omega) (by have:=X9.out.size;omega) ?_;intro v7 w7 o7 t7 l7;obtain⟨a7,c7,rfl⟩:=o7.slice;have S7:=aA (CellsAt.touch t7 (fun p hp h=>by have hl:=(aF HOm.out h).1;simp only[List.mem_cons,List.not_mem_nil,or_false]at hp;rcases hp with rfl|rfl|rfl<;>simp only at hl<;>omega) (CellsAt.ext X9.out S0.out));have O7:=aA o7;have X7:=aA (show Ext w2 w7 from(HXm.out.trans X9.out).of_below (t7.to_below (by have:=X9.out.size;omega) (fun q hq=>(aF HOm.out hq).1)) (Nat.le_refl _));clear o7 t7 l7;refine hK.out _ _ (S7.out) (fun hK0=> ?_);clear hK K;try simp only[zz])
   iterate 1 (refine SeqH.fr2 ?_;try simp only[zz])
   refine SeqH.done ?_
   clear hK0
   go_wp2
   go_roundw
   case rel=>exact⟨m+1,by have:=HB.out;(rw[show a+1+(m+1)=b+1 by omega];go_num),by have:=HB.out;omega,X7.out,by have h:=O7.out;rw[List.length_append]at h;rw[HRm.out,←List.append_assoc,HRR.out];exact h⟩
   simp[intOf];omega
  have hmm:m=N-(a+1):=by have:=HB.out;omega
  go_wp2
  go_roundw
  case rel=>exact⟨a+1,by go_num,by omega,HXm.out,by rw[HRS.out,←hmm];exact HOm.out⟩
  simp[intOf];omega
 have haN:a=N:=by omega
 subst haN
 obtain⟨ao,co,rfl⟩:=HO.out.slice
 go_wp2
 go_ret
 exact⟨_,rfl,(X1.out.trans X2.out).trans HX.out,HO.out.lower (by have:=X1.out.size;have:=X2.out.size;omega)⟩
end Go.Proofs.YtaellcgglldjaaaGreat

