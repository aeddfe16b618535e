/- Part of a proof: RedF PartN RedH RedJ. -/
import Derived.Test.YtaellcgglldjaaaGreatHq19
import Derived.Test.YtaellcgglldjaaaGreatHq02
set_option linter.all false
set_option linter.unusedVariables false
set_option linter.unusedSimpArgs false
namespace Go.Proofs.YtaellcgglldjaaaGreat
open Go.RowKit
theorem aE6 (l:List Bool):l.flatMap boolE.cells=l.map Value.bool:=by
 induction l with
 |nil=>rfl
 |cons a l ih=>simp[boolE]at *;exact ih
def dT (x:Bool) (n m:Nat):List Value:=List.replicate m (.bool x)++List.replicate (n-m) (.bool false)
theorem vL {x:Bool} {n m:Nat} (h:m≤n):(dT x n m).length=n:=by simp[dT];omega
theorem aIk {x:Bool} {n m k:Nat} (h:k<m):(dT x n m)[k]? =some (.bool x):=by
 unfold dT
 rw[List.getElem?_append_left (by simpa using h)]
 simp[h]
theorem pF {x:Bool} {n m d:Nat}:splice (dT x n m) m (List.replicate d (.bool x))=dT x n (m+d):=by
 unfold splice dT
 rw[List.take_append_of_le_length (by simp),List.take_of_length_le (by simp),List.drop_append]
 simp only[List.length_replicate,List.drop_replicate]
 rw[show m-(m+d)=0 by omega,show m+d-m=d by omega,show n-m-d=n-(m+d) by omega]
 simp only[List.replicate_zero,List.nil_append]
 rw[←List.append_assoc,List.replicate_append_replicate]
set_option maxRecDepth 100000 in
theorem aAz {w:World} (b:Nat) (x:Bool) (n:Nat) (h1:1≤n) (hn:n≤100000) (hb:b<w.heap.size) (hx:w.cell? ⟨b,0,none⟩=some (.bool x)):
  Calls Tryz.prog 39 #[.slice (some ⟨b,0,none⟩) 1 1, .int .i64 (n:Int)] w fun e w'=> ∃v,e= .returned v∧Ext w w'∧Own boolE w' w.heap.size 4 v (List.replicate n x):=by
 have H1:=aA (mul_one n (by omega) w)
 have hu:=T_bools.under
 have hinf:(Tryz.prog.info? 4).map (fun i=>(i.zero,i.size,i.bytes))=some (some (.bool false),1,1):=by kernel_rfl
 have hsz:(Tryz.prog.info? 4).map (·.size)=some 1:=by kernel_rfl
 have hmk:=run_make_row' (P:=Tryz.prog) 96 4 (.bool false) 1 hu hinf rfl .i64 .i64 n (by omega) (by omega)
 have e1:IntKind.i64.wrap (n:Int)=(n:Int):=IntWalk.i64_in _ (by omega)
 have e2:IntKind.u64.wrap (n:Int)=(n:Int):=by rw[IntKind.wrap_u64];omega
 have g1: ¬((n:Int)<0):=by omega
 have g2: ¬((9223372036854775807:Int)<(n:Int)):=by omega
 have HSZ:=aA hsz
 have HU:=aA hu
 clear hsz hu hinf
 go_enter Tryz.func39,Tryz.ntmps39
 go_upto_region 7 with(first|(go_at_call 83;refine(H1.out).mono ?_;rintro e w' ⟨rfl,hw⟩;rw[hw];clear hw))
 obtain⟨w1,hw1⟩: ∃w1,w1=w.alloc (.cells (madeCells #[.bool false] n) 4):=⟨_,rfl⟩
 have hx1:Ext w w1:=by rw[hw1];exact z_x
 have r1:w1.heap[w.heap.size]? =some (.cells (dT x n 0).toArray 4 (0,0)):=by
  rw[hw1,gP]
  congr 1
  congr 1
  apply Array.toList_inj.1
  rw[toList_madeCells_one]
  simp[dT]
 have x1:=(hx1.cell (p:=⟨b,0,none⟩) hb).trans hx
 rw[←hw1]
 clear hw1 hmk
 have R1:=aA r1
 have X1:=aA x1
 have HX1:=aA hx1
 clear r1 x1 hx1
 have hmin:([Value.bool x]:List Value).length=Nat.min 1 n:=(Nat.min_eq_left h1).symm
 have hfit:0+([Value.bool x]:List Value).length≤(dT x n 0).length:=by rw[vL (by omega)];simp;omega
 have hpos:0<([Value.bool x]:List Value).length→some (⟨w.heap.size,0,none⟩:Addr)=some ⟨w.heap.size,0,none⟩∧ ∃ad,some (⟨b,0,none⟩:Addr)=some ad∧ ∀j v,([Value.bool x]:List Value)[j]? =some v→w1.cell? (ad.add j)=some v:=fun _=>⟨rfl,_,rfl,fun j v hj=>by
  cases j with
  |zero=>simp at hj;subst hj;exact X1.out
  |succ j=>simp at hj⟩
 have hone: ∀v∈[Value.bool x],v.oneCell'=true:=fun v hv=>by simp at hv;subst hv;rfl
 have HP:=aA hpos
 have HO:=aA hone
 clear hpos hone
 go_wp2_with (with_reducible refine wpList_copy_splice rfl (.tmp 31) (.tmp 32) 96 96 rfl 4 HU.out HSZ.out (some ⟨w.heap.size,0,none⟩) (some ⟨b,0,none⟩) n n 1 1 rfl rfl w.heap.size 0 (dT x n 0) 4 R1.out [.bool x] hmin HP.out hfit HO.out w.heap.size w HX1.out.below (Nat.le_refl _) ?_;intro w2 hg2 hb2;have hb2h:=aA hb2;clear hb2)
 have R2:Hid (w2.heap[w.heap.size]? =some (.cells (dT x n 1).toArray 4 (0,0))):=by
  have e:=pF (x:=x) (n:=n) (m:=0) (d:=1)
  rw[show List.replicate 1 (Value.bool x)=[Value.bool x] from rfl,Nat.zero_add]at e
  rw[←e]
  exact hg2
 clear hg2 R1 X1 HX1 HP HO H1
 go_loopw [8] (fun i wr=> ∃m:Nat,1≤m∧m≤n∧i= .int .i64 m∧wr.heap[w.heap.size]? =some (.cells (dT x n m).toArray 4 (0,0))∧Below w.heap.size w wr) (fun i _=>n-(intOf i).toNat)
 case atStart=>exact⟨1,Nat.le_refl _,h1,rfl,R2.out,hb2h.out⟩
 case round=>
  obtain⟨m,hm1,hmn,rfl,hrow,hbel⟩:=hrel
  have HR:=aA hrow
  have HB:=aA hbel
  have hz:=hbel.size
  clear hrow hbel R2 hb2h
  by_cases hlt:m<n
  ·have hli:(m:Int)<(n:Int):=by omega
   have hli0:(0:Int)≤(m:Int):=by omega
   obtain⟨d,hd,hd1,hd2⟩: ∃d,d=min m (n-m)∧1≤d∧m+d≤n:=⟨_,rfl,by omega,by omega⟩
   have c1:(List.replicate d (Value.bool x)).length=Nat.min m (n-m):=by rw[List.length_replicate];exact hd
   have c2:m+(List.replicate d (Value.bool x)).length≤(dT x n m).length:=by rw[vL hmn,List.length_replicate];exact hd2
   have c3:=aA (fun(wq:World) (hq:wq.heap[w.heap.size]? =some (.cells (dT x n m).toArray 4 (0,0)))=>(fun _=>⟨if_neg (by omega),_,rfl,fun j v hj=>by
    rw[List.getElem?_replicate]at hj
    split at hj
    ·cases hj
     have:(wq.cell? ((⟨w.heap.size,0,none⟩:Addr).add j))=(dT x n m)[j]? :=by
      rw[show((⟨w.heap.size,0,none⟩:Addr).add j)=⟨w.heap.size,j,none⟩ by simp[Addr.add];exact fun h=>h.symm]
      simp[World.cell?,hq]
     rw[this]
     exact aIk (by omega)
    ·cases hj⟩:0<(List.replicate d (Value.bool x)).length→(if n=m then some (⟨w.heap.size,0,none⟩:Addr) else some ⟨w.heap.size,m,none⟩)=some ⟨w.heap.size,m,none⟩∧ ∃ad,some (⟨w.heap.size,0,none⟩:Addr)=some ad∧ ∀j v,(List.replicate d (Value.bool x))[j]? =some v→wq.cell? (ad.add j)=some v))
   have c4:=aA (fun v hv=>by rw[List.eq_of_mem_replicate hv];rfl: ∀v∈List.replicate d (Value.bool x),v.oneCell'=true)
   have HSP:=aA (pF (x:=x) (n:=n) (m:=m) (d:=d))
   have c5:=aA c1
   have c6:=aA c2
   clear c1 c2
   go_wp2_with fail
   have HDD:=aA hd
   clear hd
   have k1:IntKind.i64.wrap ((m:Int)+(d:Int))=(m:Int)+(d:Int):=IntWalk.i64_in _ (by omega)
   have k2:(List.replicate d (Value.bool x)).length=d:=List.length_replicate
   refine wp_region_held_drew (S:=(fun _=>True)) (by kernel_rfl) trivial (fun hHeld=> ?_)
   (((refine wpAnyH_take (i:=0) (oi:= ?g62_o) (v:= ?g62_v) ?g62_hi (by kernel_rfl) (by kernel_rfl) (by kernel_rfl) ?g62_hq ?g62_hy (by assumption) ?g62_gr;(case g62_hi=>(simp only[z_0,z_2];rfl));(case g62_hq=>exact fun _ _ _ h=>h);(case g62_hy=>(refine Or.inl ⟨by rfl,?_⟩;intro w hSw;(try dsimp only at hSw);go_simp;try with_reducible rfl));try simp only[Act.put,z_3,z_4,z_5]));((refine wpAnyH_take (i:=1) (oi:= ?g63_o) (v:= ?g63_v) ?g63_hi (by kernel_rfl) (by kernel_rfl) (by kernel_rfl) ?g63_hq ?g63_hy (by assumption) ?g63_gr;(case g63_hi=>(simp only[z_0,z_1,z_2];rfl));(case g63_hq=>exact fun _ _ _ h=>h);(case g63_hy=>(refine Or.inl ⟨by rfl,?_⟩;intro w hSw;(try dsimp only at hSw);go_simp;try with_reducible rfl));try simp only[Act.put,z_3,z_4,z_5]));((refine wpAnyH_take (i:=2) (oi:= ?g64_o) (v:= ?g64_v) ?g64_hi (by kernel_rfl) (by kernel_rfl) (by kernel_rfl) ?g64_hq ?g64_hy (by assumption) ?g64_gr;(case g64_hi=>(simp only[z_0,z_1,z_2];rfl));(case g64_hq=>exact fun _ _ _ h=>h);(case g64_hy=>(refine Or.inl ⟨by rfl,?_⟩;intro w hSw;(try dsimp only at hSw);go_simp;try with_reducible rfl));try simp only[Act.put,z_3,z_4,z_5]));((refine wpAnyH_take (i:=3) (oi:= ?g65_o) (v:= ?g65_v) ?g65_hi (by kernel_rfl) (by kernel_rfl) (by kernel_rfl) ?g65_hq ?g65_hy (by assumption) ?g65_gr;(case g65_hi=>(simp only[z_0,z_1,z_2];rfl));(case g65_hq=>exact fun _ _ _ h=>h);(case g65_hy=>(refine Or.inl ⟨by rfl,?_⟩;intro w hSw;(try dsimp only at hSw);go_simp;try with_reducible rfl));try simp only[Act.put,z_3,z_4,z_5]));((refine wpAnyH_take (i:=4) (oi:= ?g66_o) (v:= ?g66_v) ?g66_hi (by kernel_rfl) (by kernel_rfl) (by kernel_rfl) ?g66_hq ?g66_hy (by assumption) ?g66_gr;(case g66_hi=>(simp only[z_0,z_1,z_2];rfl));(case g66_hq=>exact fun _ _ _ h=>h);(case g66_hy=>(refine Or.inl ⟨by rfl,?_⟩;intro w hSw;(try dsimp only at hSw);go_simp;try with_reducible rfl));try simp only[Act.put,z_3,z_4,z_5]));((refine wpAnyH_take (i:=5) (oi:= ?g67_o) (v:= ?g67_v) ?g67_hi (by kernel_rfl) (by kernel_rfl) (by kernel_rfl) ?g67_hq ?g67_hy (by assumption) ?g67_gr;(case g67_hi=>(simp only[z_0,z_1,z_2];rfl));(case g67_hq=>exact fun _ _ _ h=>h);(case g67_hy=>(refine Or.inl ⟨by rfl,?_⟩;intro w hSw;(try dsimp only at hSw);go_simp;try with_reducible rfl));try simp only[Act.put,z_3,z_4,z_5]));((refine wpAnyH_take (i:=6) (oi:= ?g68_o) (v:= ?g68_v) ?g68_hi (by kernel_rfl) (by kernel_rfl) (by kernel_rfl) ?g68_hq ?g68_hy (by assumption) ?g68_gr;(case g68_hi=>(simp only[z_0,z_1,z_2];rfl));(case g68_hq=>exact fun _ _ _ h=>h);(case g68_hy=>(refine Or.inl ⟨by rfl,?_⟩;intro w hSw;(try dsimp only at hSw);go_simp;try with_reducible rfl));try simp only[Act.put,z_3,z_4,z_5])))
   refine wpAnyH_ready (rs:=[7]) (by kernel_rfl) (by simp) ?_
   refine AllReadyH.cons (o:= ?go) ?ghi (fun K hK=> ?_) AllReadyH.nil
   case ghi=>(simp only[List.getElem?_toArray,List.getElem?_cons_succ,List.getElem?_cons_zero];rfl)
   refine step_copy_splice rfl (.tmp 41) (.tmp 44) 96 96 rfl 4 HU.out HSZ.out (if n=m then some (⟨w.heap.size,0,none⟩:Addr) else some ⟨w.heap.size,m,none⟩) (some ⟨w.heap.size,0,none⟩) (n-m) (n-m) m n rfl rfl w.heap.size m (dT x n m) 4 HR.out (List.replicate d (.bool x)) c5.out (c3.out _ HR.out) c6.out c4.out w.heap.size w HB.out.drew (Nat.le_refl _) ?_
   intro w4 hg4 hb4
   refine hK.out _ _ trivial (fun hHeld=> ?_)
   clear hK K
   simp only[Act.put,List.setIfInBounds_toArray,List.set_cons_zero,List.set_cons_succ]
   rw[k2]
   (((refine wpAnyH_take (i:=8) (oi:= ?g69_o) (v:= ?g69_v) ?g69_hi (by kernel_rfl) (by kernel_rfl) (by kernel_rfl) ?g69_hq ?g69_hy (by assumption) ?g69_gr;(case g69_hi=>(simp only[z_0,z_1,z_2];rfl));(case g69_hq=>exact fun _ _ _ h=>h);(case g69_hy=>(refine Or.inl ⟨by rfl,?_⟩;intro w hSw;(try dsimp only at hSw);go_simp;try with_reducible rfl));try simp only[Act.put,z_3,z_4,z_5]));((refine wpAnyH_take (i:=9) (oi:= ?g70_o) (v:= ?g70_v) ?g70_hi (by kernel_rfl) (by kernel_rfl) (by kernel_rfl) ?g70_hq ?g70_hy (by assumption) ?g70_gr;(case g70_hi=>(simp only[z_0,z_1,z_2];rfl));(case g70_hq=>exact fun _ _ _ h=>h);(case g70_hy=>(refine Or.inl ⟨by rfl,?_⟩;intro w hSw;(try dsimp only at hSw);go_simp;try with_reducible rfl));try simp only[Act.put,z_3,z_4,z_5])))
   refine wpAnyH_done (by kernel_rfl) ?_ _
   have HG4:=aA hg4
   have HB4:=aA hb4
   clear hg4 hb4
   go_wp2
   go_roundw
   case rel=>exact⟨m+d,by omega,hd2,by go_num,by rw[←HSP.out];exact HG4.out.out,HB4.out⟩
   case measure=>simp[intOf];omega
  ·obtain rfl:m=n:=by omega
   go_wp2
   go_ret
   exact⟨_,rfl,HB.out,by
    have hrw:=HR.out
    unfold Own
    rw[List.length_replicate,aE6,List.map_replicate]
    refine⟨by simp[boolE], .inr ⟨w.heap.size,m,_,rfl,Nat.le_refl _,hrw,Nat.le_refl _,by unfold maxLen;omega,by simp[dT,boolE],by simp[dT,boolE]⟩⟩⟩
theorem aI5 (z u v:Value) (hz:z.cells= #[u,v]) (n:Nat):((List.replicate n ()).flatMap fun _=>[u,v])=(madeCells z.cells (n*2)).toList:=by
 unfold madeCells
 rw[hz]
 induction n with
 |zero=>simp
 |succ n ih=>
  rw[List.replicate_succ',List.flatMap_append,ih,show(n+1)*2=n*2+1+1 by omega,Array.range_succ,Array.range_succ]
  simp[show(n*2+1)% 2=1 by omega]
theorem fX {ops:Array Oper} {o:Oper} {a:Act} {K:Act→World→Prop} {Q:Exit→Act→World→Prop} {F:Prop} {w:World}
  (hgd:o.guard=none) (l c:Operand) (hop:o.op=Op.makeSlice 90 l c) (base n:Nat) (hl:a.eval l= .int .i64 (n:Int)) (hc:a.eval c= .int .i64 (n:Int)) (hn:n≤100000) (b4:base≤w.heap.size)
  (h: ∀w',Own tabE w' base 166 (.slice (some ⟨w.heap.size,0,none⟩) n n) (List.replicate n ((none,0,0),(none,0,0)))→Ext w w'→K (a.put o.dst (.slice (some ⟨w.heap.size,0,none⟩) n n)) w'):
  if Region.wanted o (yielded ops a.tmps)=true then Oper.wp Tryz.prog o a w K Q else F:=by
 have hw:Region.wanted o (yielded ops a.tmps)=true:=by simp[Region.wanted,hgd]
 rw[if_pos hw]
 obtain⟨i0,hi,hz0,hz1,hz2⟩:=info_parts T_tabs.info
 have hb:48*n≤281474976710656:=by omega
 obtain⟨w',hrun,r1,r2⟩:=run_make_full (P:=Tryz.prog) w base 90 166 i0 _ 2 T_tabs.under hi hz0 hz1 .i64 .i64 n (by rw[hz2];exact hb) (by unfold maxLen;omega) b4
 unfold Oper.wp execOp
 simp only[hop,hl,hc,hrun,Result.andThen_ok,Sem.run_bind,Sem.run_pure]
 refine h w' ?_ ((Ext.refl w).grown r2 (by simp))
 unfold Own
 rw[List.length_replicate]
 have hf:(List.replicate n (((none,0,0),(none,0,0)):Sl×Sl)).flatMap tabE.cells=(madeCells (Value.agg #[.slice none 0 0, .slice none 0 0]).cells (n*2)).toList:=by
  rw[←aI5 _ (.slice none 0 0) (.slice none 0 0) rfl]
  clear h r1 r2 hrun hb hl hc hn
  induction n with
  |zero=>rfl
  |succ n ih=>rw[List.replicate_succ,List.flatMap_cons,ih,List.replicate_succ,List.flatMap_cons];rfl
 rw[hf]
 exact r1
end Go.Proofs.YtaellcgglldjaaaGreat

namespace Go.Proofs.YtaellcgglldjaaaGreat
open Go.RowKit
theorem aKd (W H s:Int) (w:World) (hr:aL W H s=true):
  Calls Tryz.prog 35 #[.agg #[.int .i64 W, .int .i64 H], .int .i64 s] w fun e w'=>e= .returned (.tuple #[.agg #[.int .i64 W, .int .i64 H, .int .i64 s], .int .i64 0])∧Ext w w':=by
 go_enter Tryz.func35,Tryz.ntmps35
 go_wp2_with (first
  |(go_at_call 54;refine(gY _ _ _ _).mono ?_;rintro e w1 ⟨rfl,hb1⟩;obtain⟨hc1,hf1⟩:=hb1.cells;have hz1:=hb1.size;(repeat(first|rw[World.size_alloc]at hz1|rw[World.size_drew]at hz1));have z1_0:w.heap.size<w1.heap.size:=(by omega);have z1_1:w.heap.size+1<w1.heap.size:=(by omega);have z1_2:w.heap.size+2<w1.heap.size:=(by omega)))
 exact bodyPost_ret (v:= .tuple #[.agg #[.int .i64 W, .int .i64 H, .int .i64 s], .int .i64 0]) (by simp[results,Tryz.results35,go_sem, *]) rfl ⟨rfl,z_x⟩
end Go.Proofs.YtaellcgglldjaaaGreat

namespace Go.Proofs.YtaellcgglldjaaaGreat
open Go.RowKit
theorem SeqT.namedM {ops:Array Oper} {Q:Exit→Act→World→Prop} {S:World→Prop} {r:Ord} {a:Act} {X:World} (h: ∀w7,MapV w7 X.heap.size (fun _ _=>none)→Ext X w7→w7.heap.size=X.heap.size+1→S w7→SeqT Tryz.prog ops Q S r a w7) (hS:S (X.alloc (.map #[] 0))):SeqT Tryz.prog ops Q S r a (X.alloc (.map #[] 0)):=
 h _ (MapV.made X) ((Ext.refl _).alloc _) (by simp) hS
theorem SeqT.namedMD {ops:Array Oper} {Q:Exit→Act→World→Prop} {S:World→Prop} {r:Ord} {a:Act} {X:World} (h: ∀w7,MapV w7 X.heap.size (fun _ _=>none)→Ext X w7→w7.heap.size=X.heap.size+1→S w7→SeqT Tryz.prog ops Q S r a w7) (hS:S (X.alloc (.map #[] 0)).drew):SeqT Tryz.prog ops Q S r a (X.alloc (.map #[] 0)).drew:=
 h _ ((MapV.made X).ext (Ext.refl _).drew) (((Ext.refl _).alloc _).drew) (by simp) hS
theorem Stand.fresh {w:World} {b m tb sc base base':Nat} {sa:Option Addr} {W H s:Int} {l:List Int} {N:Nat} (g:Good W H s l) (hN:(N:Int)=cnt W H s)
  (B:Blk w b 93 #[.int .i64 W, .int .i64 H, .slice sa l.length sc, .int .i64 W, .int .i64 H, .int .i64 s, .map (some m), .slice (some ⟨tb,0,none⟩) N N])
  (oc:Own u16G w base 84 (.slice sa l.length sc) l) (mv:MapV w m (fun _ _=>none)) (ot:Own tabE w base' 166 (.slice (some ⟨tb,0,none⟩) N N) (List.replicate N ((none,0,0),(none,0,0)))):
  Stand w ⟨b,m,tb,sa,sc,N⟩ (fun k=>(Value.slice sa l.length sc).ownBlock=some k) W H s l (fun _ _=>none) (List.replicate N ([],[])) where
 good:=g
 blk:=by rw[List.length_replicate];exact B
 cost:=oc.lower (Nat.zero_le _)
 costR:=fun k hk=>hk
 gates:=⟨_,mv,fun a b=> .inl ⟨rfl,rfl⟩⟩
 tabs:=⟨_,by rw[List.length_replicate];exact ot.lower (Nat.zero_le _),by simp,fun i a t ha ht=>by
  rw[List.getElem?_replicate]at ha ht
  split at ha
  ·next hi=>
   rw[if_pos hi]at ht
   cases ha
   cases ht
   exact⟨⟨Own.nil _ _ _ _,fun k hk=>by cases hk⟩,[],⟨Own.nil _ _ _ _,fun k hk=>by cases hk⟩,rfl,fun i s r h=>by simp at h⟩
  ·cases ha⟩
 num:=by rw[List.length_replicate];exact hN
 lt k hk:=(aK oc hk).2
 apart k hk hf:=by
  rcases hf with rfl|rfl|rfl
  ·exact B.ne_own oc (by decide) hk
  ·exact mv.not_own oc hk
  ·exact oA oc ot (by decide) hk rfl
theorem aJz {w:World} {p:Spot} {R:Nat→Prop} {W H s:Int} {l:List Int} {G:Int→Int→Option (List (aB×aB))} {T:List Tab} (_h:Stand w p R W H s l G T) {q:Nat} (h1:q≤p.b) (h2:q≤p.m) (h3:q≤p.tb): ∀k,p.F k→q≤k:=fun k hk=>by
 rcases hk with rfl|rfl|rfl
 ·exact h1
 ·exact h2
 ·exact h3
theorem aI7 {w:World} {base:Nat} {v:Value} {l:List Bool} (h:Own boolE w base 4 v l) (hl:0<l.length): ∃g c,v= .slice (some ⟨g,0,none⟩) l.length c:=by
 rcases h.2 with⟨_,h0⟩|⟨g,cap,cur,hv,_⟩
 ·omega
 ·exact⟨g,cap,hv⟩
def fK (W H:Int) (n:Nat) (s:Int):Int:=if aS W H n=0 then(if aL W H s=true then 0 else 10) else aS W H n
def aDw (w:World) (W H s:Int) (l:List Int) (e:Ending) (w':World):Prop:=
 ∃p R,e= .returned (.tuple #[.pointer (some ⟨p.b,0,none⟩), .int .i64 0])∧WorldAt w' p R W H s l∧Ext w w'∧(∀k,p.F k→w.heap.size≤k)∧ ∀k,R k→w.heap.size≤k
set_option maxRecDepth 100000 in
set_option maxHeartbeats 2000000 in
theorem pD {w:World} {W H:Int} {a:Option Addr} {l:List Int} (c:Nat) {s:Int} (g:Good W H s l) (hr:Row16 w a l) (hs:(aI W H s l).length≤50000):
  Calls Tryz.prog 11 #[.agg #[.int .i64 W, .int .i64 H, .slice a l.length c], .int .i64 s] w (aDw w W H s l):=by
 have ht:=g.right
 have HG:=aA g
 have HS:=aA hs
 have HR:=aA hr
 have H0:=aA g.ok
 have b0:=g.cnt
 obtain⟨N,hN⟩: ∃N:Nat,(cnt W H s).toNat=N:=⟨_,rfl⟩
 have HN:=aA (show cnt W H s=(N:Int) by omega)
 have hN1:1≤N:=by omega
 have hN2:N≤65536:=by omega
 have HO:=aA (fun(w':World) (hx:Ext w w')=>vH (w:=w') W H c (by have:=g.len;omega) (hr.ext hx))
 obtain⟨n,hn⟩: ∃z,l.length=z:=⟨_,rfl⟩
 have HL:=aA hn
 rw[hn]at H0 HO⊢
 have hmm:= @run_makeMap Tryz.prog
 clear g hs hr b0 hN hn
 go_enter Tryz.func11,Tryz.ntmps11
 go_wp2_with (first
  |(go_at_call 34;refine(cA W H a n c _).mono ?_;rintro e w3 ⟨rfl,hb3⟩;obtain⟨hc3,hf3⟩:=hb3.cells;have hz3:=hb3.size;(repeat(first|rw[World.size_alloc]at hz3|rw[World.size_drew]at hz3));have z3_0:w.heap.size<w3.heap.size:=(by omega);have X3:=aA (show Ext w w3 from z_x);rw[H0.out])
  |(go_at_call 35;refine(aKd W H s _ ht).mono ?_;rintro e w4 ⟨rfl,hb4⟩;have X4:=aA (X3.out.trans hb4);obtain⟨hc4,hf4⟩:=hb4.cells;have hz4:=hb4.size;(repeat(first|rw[World.size_alloc]at hz4|rw[World.size_drew]at hz4));have z4_0:w.heap.size<w4.heap.size:=(by omega)))
 have BF4:Hid (Blk w4 (w.heap.size) 26 #[.int .i64 W, .int .i64 H, .slice a n c]):=aA (by refine Blk.ext ?_ (Ext.trans hb3 hb4);(repeat' (first|exact Blk.new_ (by simp)|refine Blk.drew ?_|refine Blk.over ?_)))
 obtain⟨wb,hwb⟩: ∃wb,w4.alloc (.cells #[.int .i64 W, .int .i64 H, .int .i64 s] 53)=wb:=⟨_,rfl⟩
 have BP:=aA (show Blk wb w4.heap.size 53 #[.int .i64 W, .int .i64 H, .int .i64 s] by rw[←hwb];exact Blk.new_ rfl)
 have XB:=aA (show Ext w wb by rw[←hwb];exact X4.out.trans ((Ext.refl _).alloc _))
 have BF:=aA (show Blk wb w.heap.size 26 #[.int .i64 W, .int .i64 H, .slice a n c] by rw[←hwb];exact Blk.over BF4.out)
 obtain⟨pb,hpb⟩: ∃pb,w4.heap.size=pb:=⟨_,rfl⟩
 rw[hwb]
 rw[hpb]at BP⊢
 have hzb:=XB.out.size
 clear hwb hpb BF4 X3 X4 hb3 hb4 hc3 hf3 hz3 hc4 hf4 hz4 z3_0 z4_0
 have f0:=BF.out.at 0 rfl;have f1:=BF.out.at 1 rfl;have f2:=BF.out.at 2 rfl;have fz:=BF.out.lt
 have q0:=BP.out.at 0 rfl;have q1:=BP.out.at 1 rfl;have q2:=BP.out.at 2 rfl;have qz:=BP.out.lt
 have T0:=aA True.intro
 refine oF (S:=(fun W=>(∀b o,b<wb.heap.size→W.cell? ⟨b,o,none⟩=wb.cell? ⟨b,o,none⟩)∧Ext wb W)) (.take 0 (.take 2 (.take 4 (.step 1 (.step 3 (.step 5 (.step 6 (.take 7 (.step 8 (.take 9 .done) .shut)) .shut) .shut) (.step 5 (.step 3 (.step 6 (.take 7 (.step 8 (.take 9 .done) .shut)) .shut) (.step 6 (.step 3 (.take 7 (.step 8 (.take 9 .done) .shut)) .shut) .shut)) .shut)) (.step 3 (.step 1 (.step 5 (.step 6 (.take 7 (.step 8 (.take 9 .done) .shut)) .shut) .shut) .shut) .shut))))) (by kernel_rfl) (by kernel_rfl) (by kernel_rfl) (by decide) (fun _ _ d _ _ h=>by cases d<;>exact h) (by first|with_reducible exact aM _|exact aG z_x) (fun hHeld=> ?_)
 iterate 3 (refine SeqT.fr1 ?_;try simp only[Act.put,z_3,z_4,z_5])
 (apply SeqT.step;(·(simp only[z_0,z_1,z_2];rfl)))
 (intro K hK;go_simp;refine(HO.out _ (XB.out.trans z_x)).mono ?_;rintro e w5 ⟨sa,sc,rfl,x5,o5⟩;rw[HL.out]at o5⊢;(try replace HM:=aA (HM.out.ext x5));have OC:=aA (o5.lower (base':=w.heap.size) (Nat.le_trans hzb (show Ext wb _ from z_x).size));clear o5;go_wp2_with fail;refine hK.out _ _ (aG z_x) (fun hHeld=> ?_);clear hK K;(try simp only[Act.put,z_3,z_4,z_5]))
 (apply SeqT.step;(·(simp only[z_0,z_1,z_2];rfl)))
 (intro K hK;go_simp;refine hK.out _ _ (aG z_x) (fun hHeld=> ?_);clear hK K;(try simp only[Act.put,z_3,z_4,z_5]);(first|refine SeqT.namedM ?_ (by assumption)|refine SeqT.namedMD ?_ (by assumption));intro w3 hm hx3 hz3 hS3;have HM:=aA hm;(try replace OC:=aA (OC.out.ext hx3));(try replace OT:=aA (OT.out.ext hx3));clear hm hz3)
 (apply SeqT.last;(·(simp only[z_0,z_1,z_2];rfl)))
 (intro K hK;go_simp;refine(eM W H s _ ht).mono ?_;rintro e w6 ⟨rfl,x6⟩;rw[HN.out];(try replace HM:=aA (HM.out.ext x6));(try replace OC:=aA (OC.out.ext x6));go_wp2_with fail;refine hK.out _ _ (aG z_x) (fun hHeld=> ?_);clear hK K;(try simp only[Act.put,z_3,z_4,z_5]))
 (apply SeqT.last;(·(simp only[z_0,z_1,z_2];rfl)))
 (intro K hK;refine fX (by rfl) _ _ (by rfl) w.heap.size N (by rfl) (by rfl) (by omega) (Nat.le_trans hzb (show Ext wb _ from z_x).size) ?_;intro w7 o7 x7;(try replace HM:=aA (HM.out.ext x7));(try replace OC:=aA (OC.out.ext x7));have OT:=aA o7;clear o7;refine hK.out _ _ (aG z_x) (fun hHeld=> ?_);clear hK K;(try simp only[Act.put,z_3,z_4,z_5]))
 iterate 1 (refine SeqT.fr1 ?_;try simp only[Act.put,z_3,z_4,z_5])
 (apply SeqT.last;(·(simp only[z_0,z_1,z_2];rfl)))
 (intro K hK;go_simp;refine hK.out _ _ (aG z_x) (fun hHeld=> ?_);clear hK K;(try simp only[Act.put,z_3,z_4,z_5]);(first|refine SeqT.named ?_ (by assumption)|refine SeqT.namedD ?_ (by assumption));intro w8 dt hx8 hz8 hS8;have DT:=aA dt;clear dt hz8;replace HM:=aA (HM.out.ext hx8);replace OC:=aA (OC.out.ext hx8);replace OT:=aA (OT.out.ext hx8);have X8:=aA (show Ext wb w8 from z_x);have P8:=aA (BP.out.ext X8.out);replace q0:=P8.out.at 0 rfl;replace q1:=P8.out.at 1 rfl;replace q2:=P8.out.at 2 rfl;replace qz:=P8.out.lt)
 iterate 1 (refine SeqT.fr1 ?_;try simp only[Act.put,z_3,z_4,z_5])
 refine SeqT.fin ?_
 rotate_left
 (apply SeqT.last;(·(simp only[z_0,z_1,z_2];rfl)))
 (intro K hK;go_simp;refine(eM W H s _ ht).mono ?_;rintro e w6 ⟨rfl,x6⟩;rw[HN.out];(try replace HM:=aA (HM.out.ext x6));(try replace OC:=aA (OC.out.ext x6));go_wp2_with fail;refine hK.out _ _ (aG z_x) (fun hHeld=> ?_);clear hK K;(try simp only[Act.put,z_3,z_4,z_5]))
 (apply SeqT.step;(·(simp only[z_0,z_1,z_2];rfl)))
 (intro K hK;go_simp;refine hK.out _ _ (aG z_x) (fun hHeld=> ?_);clear hK K;(try simp only[Act.put,z_3,z_4,z_5]);(first|refine SeqT.namedM ?_ (by assumption)|refine SeqT.namedMD ?_ (by assumption));intro w3 hm hx3 hz3 hS3;have HM:=aA hm;(try replace OC:=aA (OC.out.ext hx3));(try replace OT:=aA (OT.out.ext hx3));clear hm hz3)
 (apply SeqT.last;(·(simp only[z_0,z_1,z_2];rfl)))
 (intro K hK;refine fX (by rfl) _ _ (by rfl) w.heap.size N (by rfl) (by rfl) (by omega) (Nat.le_trans hzb (show Ext wb _ from z_x).size) ?_;intro w7 o7 x7;(try replace HM:=aA (HM.out.ext x7));(try replace OC:=aA (OC.out.ext x7));have OT:=aA o7;clear o7;refine hK.out _ _ (aG z_x) (fun hHeld=> ?_);clear hK K;(try simp only[Act.put,z_3,z_4,z_5]))
 iterate 1 (refine SeqT.fr1 ?_;try simp only[Act.put,z_3,z_4,z_5])
 (apply SeqT.last;(·(simp only[z_0,z_1,z_2];rfl)))
 (intro K hK;go_simp;refine hK.out _ _ (aG z_x) (fun hHeld=> ?_);clear hK K;(try simp only[Act.put,z_3,z_4,z_5]);(first|refine SeqT.named ?_ (by assumption)|refine SeqT.namedD ?_ (by assumption));intro w8 dt hx8 hz8 hS8;have DT:=aA dt;clear dt hz8;replace HM:=aA (HM.out.ext hx8);replace OC:=aA (OC.out.ext hx8);replace OT:=aA (OT.out.ext hx8);have X8:=aA (show Ext wb w8 from z_x);have P8:=aA (BP.out.ext X8.out);replace q0:=P8.out.at 0 rfl;replace q1:=P8.out.at 1 rfl;replace q2:=P8.out.at 2 rfl;replace qz:=P8.out.lt)
 iterate 1 (refine SeqT.fr1 ?_;try simp only[Act.put,z_3,z_4,z_5])
 refine SeqT.fin ?_
 rotate_left
 (apply SeqT.last;(·(simp only[z_0,z_1,z_2];rfl)))
 (intro K hK;refine fX (by rfl) _ _ (by rfl) w.heap.size N (by rfl) (by rfl) (by omega) (Nat.le_trans hzb (show Ext wb _ from z_x).size) ?_;intro w7 o7 x7;(try replace HM:=aA (HM.out.ext x7));(try replace OC:=aA (OC.out.ext x7));have OT:=aA o7;clear o7;refine hK.out _ _ (aG z_x) (fun hHeld=> ?_);clear hK K;(try simp only[Act.put,z_3,z_4,z_5]))
 (apply SeqT.last;(·(simp only[z_0,z_1,z_2];rfl)))
 (intro K hK;go_simp;refine hK.out _ _ (aG z_x) (fun hHeld=> ?_);clear hK K;(try simp only[Act.put,z_3,z_4,z_5]);(first|refine SeqT.namedM ?_ (by assumption)|refine SeqT.namedMD ?_ (by assumption));intro w3 hm hx3 hz3 hS3;have HM:=aA hm;(try replace OC:=aA (OC.out.ext hx3));(try replace OT:=aA (OT.out.ext hx3));clear hm hz3)
 iterate 1 (refine SeqT.fr1 ?_;try simp only[Act.put,z_3,z_4,z_5])
 (apply SeqT.last;(·(simp only[z_0,z_1,z_2];rfl)))
 (intro K hK;go_simp;refine hK.out _ _ (aG z_x) (fun hHeld=> ?_);clear hK K;(try simp only[Act.put,z_3,z_4,z_5]);(first|refine SeqT.named ?_ (by assumption)|refine SeqT.namedD ?_ (by assumption));intro w8 dt hx8 hz8 hS8;have DT:=aA dt;clear dt hz8;replace HM:=aA (HM.out.ext hx8);replace OC:=aA (OC.out.ext hx8);replace OT:=aA (OT.out.ext hx8);have X8:=aA (show Ext wb w8 from z_x);have P8:=aA (BP.out.ext X8.out);replace q0:=P8.out.at 0 rfl;replace q1:=P8.out.at 1 rfl;replace q2:=P8.out.at 2 rfl;replace qz:=P8.out.lt)
 iterate 1 (refine SeqT.fr1 ?_;try simp only[Act.put,z_3,z_4,z_5])
 refine SeqT.fin ?_
 rotate_left
 (apply SeqT.last;(·(simp only[z_0,z_1,z_2];rfl)))
 (intro K hK;go_simp;refine hK.out _ _ (aG z_x) (fun hHeld=> ?_);clear hK K;(try simp only[Act.put,z_3,z_4,z_5]);(first|refine SeqT.namedM ?_ (by assumption)|refine SeqT.namedMD ?_ (by assumption));intro w3 hm hx3 hz3 hS3;have HM:=aA hm;(try replace OC:=aA (OC.out.ext hx3));(try replace OT:=aA (OT.out.ext hx3));clear hm hz3)
 (apply SeqT.last;(·(simp only[z_0,z_1,z_2];rfl)))
 (intro K hK;go_simp;refine(HO.out _ (XB.out.trans z_x)).mono ?_;rintro e w5 ⟨sa,sc,rfl,x5,o5⟩;rw[HL.out]at o5⊢;(try replace HM:=aA (HM.out.ext x5));have OC:=aA (o5.lower (base':=w.heap.size) (Nat.le_trans hzb (show Ext wb _ from z_x).size));clear o5;go_wp2_with fail;refine hK.out _ _ (aG z_x) (fun hHeld=> ?_);clear hK K;(try simp only[Act.put,z_3,z_4,z_5]))
 (apply SeqT.last;(·(simp only[z_0,z_1,z_2];rfl)))
 (intro K hK;go_simp;refine(eM W H s _ ht).mono ?_;rintro e w6 ⟨rfl,x6⟩;rw[HN.out];(try replace HM:=aA (HM.out.ext x6));(try replace OC:=aA (OC.out.ext x6));go_wp2_with fail;refine hK.out _ _ (aG z_x) (fun hHeld=> ?_);clear hK K;(try simp only[Act.put,z_3,z_4,z_5]))
 (apply SeqT.last;(·(simp only[z_0,z_1,z_2];rfl)))
 (intro K hK;refine fX (by rfl) _ _ (by rfl) w.heap.size N (by rfl) (by rfl) (by omega) (Nat.le_trans hzb (show Ext wb _ from z_x).size) ?_;intro w7 o7 x7;(try replace HM:=aA (HM.out.ext x7));(try replace OC:=aA (OC.out.ext x7));have OT:=aA o7;clear o7;refine hK.out _ _ (aG z_x) (fun hHeld=> ?_);clear hK K;(try simp only[Act.put,z_3,z_4,z_5]))
 iterate 1 (refine SeqT.fr1 ?_;try simp only[Act.put,z_3,z_4,z_5])
 (apply SeqT.last;(·(simp only[z_0,z_1,z_2];rfl)))
 (intro K hK;go_simp;refine hK.out _ _ (aG z_x) (fun hHeld=> ?_);clear hK K;(try simp only[Act.put,z_3,z_4,z_5]);(first|refine SeqT.named ?_ (by assumption)|refine SeqT.namedD ?_ (by assumption));intro w8 dt hx8 hz8 hS8;have DT:=aA dt;clear dt hz8;replace HM:=aA (HM.out.ext hx8);replace OC:=aA (OC.out.ext hx8);replace OT:=aA (OT.out.ext hx8);have X8:=aA (show Ext wb w8 from z_x);have P8:=aA (BP.out.ext X8.out);replace q0:=P8.out.at 0 rfl;replace q1:=P8.out.at 1 rfl;replace q2:=P8.out.at 2 rfl;replace qz:=P8.out.lt)
 iterate 1 (refine SeqT.fr1 ?_;try simp only[Act.put,z_3,z_4,z_5])
 refine SeqT.fin ?_
 all_goals
  have ST8:=aA (Stand.fresh (w:=w8) HG.out HN.out.symm (by rw[HL.out];exact DT.out) (by rw[HL.out];exact OC.out) HM.out OT.out)
  have XW:=aA (XB.out.trans X8.out)
  have s3:=hx3.size
  have s5:=x5.size
  have s6:=x6.size
  have s7:=x7.size
  have s8:=hx8.size
  (try simp only[World.size_drew]at s3 s5 s6 s7 s8)
  have HOC:=aA (fun k (hk:(Value.slice sa l.length sc).ownBlock=some k)=>(aK OC.out (by rw[HL.out]at hk;exact hk)).1)
  clear hHeld X8 DT OC HM OT
  (try go_wp2_with fail)
  refine(eM W H s _ ht).mono ?_
  rintro e w9 ⟨rfl,x9⟩
  rw[HN.out]
  have c9:=(x9.cell (p:=⟨w8.heap.size,0,none⟩) (by simp)).trans ((Blk.new w8 4 #[.bool true]).at 0 rfl)
  have z9:w8.heap.size<w9.heap.size:=by have:=x9.size;simp at this;omega
  have X89:=aA (show Ext w8 w9 from z_x)
  clear x9 q0 q1 q2 qz P8
  go_wp2_with fail
  refine(aAz w8.heap.size true N hN1 (by omega) z9 c9).mono ?_
  rintro e w10 ⟨v10,rfl,x10,o10⟩
  obtain⟨g10,c10,rfl⟩:=aI7 o10 (by simp;omega)
  rw[List.length_replicate]
  rw[List.length_replicate]at o10
  have X810:=aA (X89.out.trans x10)
  have ST10:=aA (ST8.out.ext X810.out)
  have z10:=x10.size
  have g10z:=aK o10 (k:=g10) rfl
  have HB:=aEa ST10.out (tg:=g10) (tc:=c10) (N:=N) (tu:=List.replicate N true) (by simp) (by simp) (o10.lower (Nat.zero_le _)) (fun hf=>by have:=ST8.out.foot hf;omega) (fun a b hn=> .inl (by
   have h1:=hn.1
   have h2:=hn.2.1
   have h3:=hn.2.2.1
   rw[HN.out]at h2
   rw[List.getD_eq_getElem?_getD,List.getElem?_replicate,if_pos (by omega)]
   rfl)) HS.out
  have HB:=aA HB
  clear o10 x10 c9
  go_wp2_with fail
  refine(HB.out).mono ?_
  rintro e w11 ⟨v,R',G',T',rfl,ho,hst,hgf,htt,tt,hrr⟩
  obtain⟨va,vc,rfl⟩:=ho.slice
  have LF:=aA (aJz ST8.out (q:=w.heap.size) (by simp only;omega) (by simp only;omega) (by simp only;omega))
  have XX:=aA ((XW.out.trans X810.out).of_below (tt.to_below (Nat.le_trans XW.out.size X810.out.size) LF.out) (Nat.le_refl _))
  have HST:=aA hst
  have HGF:=aA hgf
  have HTT:=aA htt
  have HRR:=aA hrr
  clear ho hst hgf htt tt hrr HB
  go_wp2_with fail
  go_ret2
  refine⟨_,R',?_,⟨G',T',HST.out,HGF.out,fun i hi=> ?_⟩,XX.out,LF.out,fun k hk=>(HRR.out k hk).elim (fun h=>HOC.out k h) (fun h=>Nat.le_trans (Nat.le_trans XW.out.size X810.out.size) h)⟩
  ·rfl
  ·have hi':i<N:=by have:=HST.out.num;have:=HN.out;omega
   have h:=HTT.out i (by rw[List.length_replicate];exact hi')
   rw[h]
   unfold yN kH
   rw[List.getD_eq_getElem?_getD,List.getElem?_replicate,if_pos hi']
   rfl
end Go.Proofs.YtaellcgglldjaaaGreat

namespace Go.Proofs.YtaellcgglldjaaaGreat
open Go.RowKit
theorem aKf {g q n c:Nat} (h:(Value.slice (some ⟨g,0,none⟩) n c).ownBlock=some q):g=q:=by simpa [Value.ownBlock] using h
def TabsAt (w:World) (g N c:Nat) (T:List Tab):Prop:= ∃(R:Nat→Prop) (ts:List (Sl×Sl)),Own tabE w 0 166 (.slice (some ⟨g,0,none⟩) N c) ts∧TabsR R w ts T
theorem TabsAt.ext {w w':World} {g N c:Nat} {T:List Tab} (h:TabsAt w g N c T) (x:Ext w w'):TabsAt w' g N c T:=by
 obtain⟨R,ts,h1,h2⟩:=h
 exact⟨R,ts,h1.ext x,h2.touch (Touch.of_ext (S:=fun _=>False) x) (fun _ _ x=>x)⟩
theorem TabsAt.at {w:World} {g N c k:Nat} {T:List Tab} {t:Tab} (h:TabsAt w g N c T) (ht:T[k]? =some t):
  ∃a n b m,w.cell? ⟨g,k*2,none⟩=some (.slice a t.1.length n)∧w.cell? ⟨g,k*2+1,none⟩=some (.slice b t.2.length m)∧RowC w a t.1∧RowsU w b t.2:=by
 obtain⟨R,ts,h1,h2,h3⟩:=h
 obtain⟨q,hq⟩: ∃q,ts[k]? =some q:=⟨_,List.getElem?_eq_getElem (by rw[h2];exact(List.getElem?_eq_some_iff.1 ht).1)⟩
 have CA:=iK h1 hq
 obtain⟨⟨o,_⟩,r⟩:=h3 k q t hq ht
 obtain⟨⟨q1,q2,q3⟩,⟨q4,q5,q6⟩⟩:=q
 simp only[slV]at CA o r
 obtain⟨e1,rc⟩:=Reads.rowC o.reads
 have ra:=r.at0
 obtain⟨_,_,e2,_⟩:=jD ra
 have ru:=ra.u
 have e3:q5=t.2.length:=by injection e2
 subst e1 e3
 exact⟨q1,q3,q4,q6,CA.1,CA.2,rc,ru⟩
theorem TabsR.snoc {R:Nat→Prop} {w:World} {ts:List (Sl×Sl)} {T:List Tab} {s:Sl×Sl} {t:Tab} (h:TabsR R w ts T) (hs:TabR R w s t):TabsR R w (ts++[s]) (T++[t]):=by
 refine⟨by simp[h.1],fun i x y hx hy=> ?_⟩
 by_cases hi:i<ts.length
 ·rw[List.getElem?_append_left hi]at hx
  rw[List.getElem?_append_left (by rw[←h.1];exact hi)]at hy
  exact h.2 i x y hx hy
 ·rw[List.getElem?_append_right (by omega)]at hx
  rw[List.getElem?_append_right (by rw[←h.1];omega)]at hy
  have h0:i-ts.length=0:=by
   have:=(List.getElem?_eq_some_iff.1 hx).1
   simp at this
   omega
  rw[h0]at hx
  rw[←h.1,h0]at hy
  simp at hx hy
  subst hx hy
  exact hs
end Go.Proofs.YtaellcgglldjaaaGreat

