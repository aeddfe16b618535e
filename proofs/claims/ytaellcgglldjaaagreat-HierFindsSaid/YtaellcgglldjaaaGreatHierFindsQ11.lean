/- Part of a proof: HierP RowC Repeat InA. -/
import Derived.Test.YtaellcgglldjaaaGreatHierFindsQ10
import Derived.Test.YtaellcgglldjaaaGreatHierFindsQ01
import Derived.Test.YtaellcgglldjaaaGreatHierFindsQ03
import Derived.Laws.Bits64b
import Derived.Laws.CopyOwn
import Derived.Deep.RegionLaw
import Derived.Deep.OwnRows
import Derived.OwnWalk
import Derived.Laws.EntriesVeiled
set_option linter.all false
set_option linter.unusedVariables false
set_option linter.unusedSimpArgs false
namespace Go.Proofs.YtaellcgglldjaaaGreat
open Go.RowKit
def cE (G:List (aB×aB)) (f t c:aB):Bool:=(decide (c=f)||decide (c=t))||gIn G c
def aN (W H:Int) (G:List (aB×aB)) (f t:aB):List aB:=(gI 0 0 W H).filter (cE G f t)
theorem lL (W H:Int) (G:List (aB×aB)) (f t:aB):(aN W H G f t).Pairwise ltC:=(mW 0 0 W H).filter _
theorem nodesL_mem {W H:Int} {G:List (aB×aB)} {f t c:aB}:c∈aN W H G f t↔((0≤c.1∧c.1<W)∧(0≤c.2∧c.2<H))∧(c=f∨c=t∨gIn G c=true):=by
 unfold aN cE
 rw[List.mem_filter,jI]
 simp only[Bool.or_eq_true,decide_eq_true_eq,Int.zero_add]
 constructor
 ·rintro⟨h1,h2⟩
  exact⟨by omega,or_assoc.1 h2⟩
 rintro⟨h1,h2⟩
 exact⟨by omega,or_assoc.2 h2⟩
def xO (G:List (aB×aB)):List aB:=G.flatMap fun g=>[g.1,g.2]
theorem gIn_flat {G:List (aB×aB)} {c:aB}:gIn G c=true↔c∈xO G:=by
 unfold xO
 rw[gIn_iff,List.mem_flatMap]
 constructor
 ·rintro⟨g,hg,h⟩
  refine⟨g,hg,?_⟩
  rcases h with rfl|rfl<;>simp
 rintro⟨g,hg,h⟩
 refine⟨g,hg,?_⟩
 simp only[List.mem_cons,List.not_mem_nil,or_false]at h
 exact h.imp Eq.symm Eq.symm
open Classical in
noncomputable def cA (W H s:Int) (l:List Int) (a c:aB):Int:=if h:fE W H s (ofN W s a.1 a.2) l then cL h a (aC W c) else aJ
noncomputable def bL (W H s:Int) (l:List Int) (N:List aB) (a:aB):List (aB×Int):=(N.filter fun c=>decide (ofN W s c.1 c.2=ofN W s a.1 a.2)&&(!(decide (c=a))&& !(decide (cA W H s l a c=aJ)))).map fun c=>(c,cA W H s l a c)
def gL (W:Int) (l:List Int) (a:aB) (g:aB×aB):List (aB×Int):=if g.1=a then[(g.2,aL l W g.2)] else if g.2=a then[(g.1,aL l W g.1)] else[]
def bH (W:Int) (l:List Int) (G:List (aB×aB)) (a:aB):List (aB×Int):=G.flatMap (gL W l a)
noncomputable def cB (W H s:Int) (l:List Int) (G:List (aB×aB)) (f t a:aB):List (aB×Int):=bL W H s l (aN W H G f t) a++bH W l G a
theorem oB {W H s:Int} {l:List Int} (hr:aK W H s=true) {g:aB×aB} (hg:g∈aD W H s l):
  ∃a b,0≤a∧a<b∧b<cnt W H s∧Pair W H s a b∧inB W H g.1.1 g.1.2=true∧inB W H g.2.1 g.2.2=true∧ofN W s g.1.1 g.1.2=a∧ofN W s g.2.1 g.2.2=b∧lY l W g=true∧ ∃k:Nat,(bI W H s a b)[k]? =some g:=by
 unfold aD ofG at hg
 obtain⟨k,hk,hg⟩:=List.mem_flatMap.1 hg
 have hk:=List.mem_range.1 hk
 unfold qN at hg
 obtain⟨b,hb,hg⟩:=List.mem_flatMap.1 hg
 obtain⟨hb1,hb2⟩:=List.mem_filter.1 hb
 have hb1:=(dO _).mem_iff.1 hb1
 have hb2:(k:Int)≤b:=of_decide_eq_true hb2
 have hne:b≠(k:Int):=by
  rintro rfl
  have h:=fV (id:=(k:Int)) hr
  rw[hasI_iff.2 hb1]at h
  cases h
 have hrg:=jG hr (show(0:Int)≤(k:Int) by omega) (by omega) hb1
 have hp:=(lB hr (show(0:Int)≤(k:Int) by omega) (by omega) hrg.2).1 (hasI_iff.2 hb1)
 unfold btw eC at hg
 obtain⟨j,hj,hg⟩:=List.mem_filterMap.1 hg
 have hg':(bI W H s (k:Int) b)[j]? =some g:=by
  have e:fP W H s (k:Int) b=bI W H s (k:Int) b:=by
   unfold fP
   rw[show min (k:Int) b=(k:Int) by omega,show max (k:Int) b=b by omega]
  rw[←e];exact hg
 obtain⟨c1,c2,c3,c4,_⟩:=vM hr hp hg'
 refine⟨(k:Int),b,by omega,by omega,hrg.2,hp,c1,c2,c3,c4,?_,j,hg'⟩
 unfold gA at hj
 have hm:=(List.mem_filter.1 hj).2
 unfold iO at hm
 have ho:=(Bool.and_eq_true _ _▸hm).1
 unfold opB at ho
 rw[hg]at ho
 exact ho
theorem aL9 {W H s:Int} {l:List Int} (hr:aK W H s=true) {c:aB} (hc:c∈xO (aD W H s l)):inB W H c.1 c.2=true:=by
 unfold xO at hc
 obtain⟨g,hg,h⟩:=List.mem_flatMap.1 hc
 obtain⟨a,b,_,_,_,_,h1,h2,_⟩:=oB hr hg
 simp only[List.mem_cons,List.not_mem_nil,or_false]at h
 rcases h with rfl|rfl
 ·exact h1
 exact h2
end Go.Proofs.YtaellcgglldjaaaGreat

namespace Go.Proofs.YtaellcgglldjaaaGreat
open Go.RowKit
def RowC (w:World) (a:Option Addr) (l:List aB):Prop:=0<l.length→ ∃b off,a=some ⟨b,off,none⟩∧b<w.heap.size∧ ∀k (h:k<l.length),w.cell? ⟨b,off+k*2,none⟩=some (.int .i64 l[k].1)∧w.cell? ⟨b,off+k*2+1,none⟩=some (.int .i64 l[k].2)
theorem RowC.ext {w w':World} {a:Option Addr} {l:List aB} (h:RowC w a l) (e:Ext w w'):RowC w' a l:=fun h0=>by
 obtain⟨b,off,ha,hb,hc⟩:=h h0
 exact⟨b,off,ha,Nat.lt_of_lt_of_le hb e.size,fun k hk=>⟨(e.cell (p:=⟨b,off+k*2,none⟩) hb).trans (hc k hk).1,(e.cell (p:=⟨b,off+k*2+1,none⟩) hb).trans (hc k hk).2⟩⟩
theorem RowC.touch {S:Nat→Prop} {w w':World} {a:Option Addr} {l:List aB} (h:RowC w a l) (t:Touch S w w') (hs: ∀b off,a=some ⟨b,off,none⟩→ ¬S b):RowC w' a l:=fun h0=>by
 obtain⟨b,off,ha,hb,hc⟩:=h h0
 exact⟨b,off,ha,Nat.lt_of_lt_of_le hb t.size,fun k hk=>⟨(t.cell (p:=⟨b,off+k*2,none⟩) hb (hs b off ha)).trans (hc k hk).1,(t.cell (p:=⟨b,off+k*2+1,none⟩) hb (hs b off ha)).trans (hc k hk).2⟩⟩
theorem RowC.reads {w:World} {a:Option Addr} {l:List aB} (h:RowC w a l) (h0:0<l.length) (c:Nat):Reads cellE w (.slice a l.length c) l:=by
 obtain⟨b,off,rfl,hb,hc⟩:=h h0
 refine .inr ⟨b,off,c,rfl,hb,fun k p hp j u hu=> ?_⟩
 obtain⟨hk,rfl⟩:=zJ hp
 have h1:=hc k hk
 simp only[cellE]at hu⊢
 match j,hu with
 |0,hu=>simp at hu;subst hu;exact h1.1
 |1,hu=>simp at hu;subst hu;exact h1.2
 |j+2,hu=>simp at hu
theorem Reads.rowC {w:World} {a:Option Addr} {n c:Nat} {l:List aB} (h:Reads cellE w (.slice a n c) l):n=l.length∧RowC w a l:=by
 rcases h with⟨hv,rfl⟩|⟨b,off,cap,hv,hb,hc⟩
 ·injection hv with h1 h2 _
  exact⟨h2,fun h=>by simp at h⟩
 injection hv with h1 h2 _
 refine⟨h2,fun _=>⟨b,off,h1,hb,fun k hk=>⟨?_,?_⟩⟩⟩
 ·have:=hc k l[k] (zG hk) 0 (.int .i64 l[k].1) rfl
  simpa [cellE] using this
 have:=hc k l[k] (zG hk) 1 (.int .i64 l[k].2) rfl
 simpa [cellE,Nat.add_assoc] using this
end Go.Proofs.YtaellcgglldjaaaGreat

namespace Go.Proofs.YtaellcgglldjaaaGreat
open Go.RowKit
theorem aEc (n:Nat) (hn:n≤1000000):bits .and .u64 (n:Int) 4294967295=(n:Int):=by
 have h:=bits_and_u64_nat n 4294967295 (by omega) (by omega)
 have e:n&&&4294967295=n% 4294967296:=Nat.and_two_pow_sub_one_eq_mod n 32
 rw[e,Nat.mod_eq_of_lt (by omega)]at h
 exact h
theorem aJn:bits .and .u64 1 4294967295=1:=by decide+kernel
theorem aH0:bits .and .u64 0 4294967295=0:=by decide+kernel
theorem aH1 (n:Nat) (hn:n≤1000000) (w:World):Calls Tryz.prog 144 #[.int .u64 1, .int .u64 (n:Int)] w fun e w'=>e= .returned (.tuple #[.int .u64 0, .int .u64 (n:Int)])∧w'=w:=by
 have a1:=aEc n hn
 have a2:=aJn
 have a3:=aH0
 have a4:(n:Int)/4294967296=0:=by omega
 have a5:IntKind.u64.wrap (n:Int)=(n:Int):=by rw[IntKind.wrap_u64];omega
 go_enter Tryz.func144,Tryz.ntmps144
 go_wp2
 go_ret2
 exact⟨rfl,rfl⟩
theorem mul_one (n:Nat) (hn:n≤1000000) (w:World):Calls Tryz.prog 83 #[.int .u64 1, .int .u64 (n:Int)] w fun e w'=>e= .returned (.tuple #[.int .u64 0, .int .u64 (n:Int)])∧w'=w:=by
 have H1:=aA (aH1 n hn w)
 go_enter Tryz.func83,Tryz.ntmps83
 go_wp2_with (go_at_call 144;refine(H1.out).mono ?_;rintro e w' ⟨rfl,rfl⟩)
 go_ret2
 exact⟨rfl,rfl⟩
def u64E:Enc Int:=⟨1,fun x=>[.int .u64 x],fun _=>rfl,fun _ u hu=>by simp at hu;subst hu;rfl⟩
theorem T_u64s:cH Tryz.prog 78 38 (.int .u64 0) 1 8:=⟨Tryz.underlying78,by kernel_rfl,rfl,by decide⟩
theorem aKd (l:List Int):l.flatMap u64E.cells=l.map (Value.int .u64):=by
 induction l with
 |nil=>rfl
 |cons a l ih=>simp[u64E]at *;exact ih
def rowU (x:Int) (n m:Nat):List Value:=List.replicate m (.int .u64 x)++List.replicate (n-m) (.int .u64 0)
theorem aAd {x:Int} {n m:Nat} (h:m≤n):(rowU x n m).length=n:=by simp[rowU];omega
theorem aLq {x:Int} {n m k:Nat} (h:k<m):(rowU x n m)[k]? =some (.int .u64 x):=by
 unfold rowU
 rw[List.getElem?_append_left (by simpa using h)]
 simp[h]
theorem rX {x:Int} {n m d:Nat}:splice (rowU x n m) m (List.replicate d (.int .u64 x))=rowU x n (m+d):=by
 unfold splice rowU
 rw[List.take_append_of_le_length (by simp),List.take_of_length_le (by simp),List.drop_append]
 simp only[List.length_replicate,List.drop_replicate]
 rw[show m-(m+d)=0 by omega,show m+d-m=d by omega,show n-m-d=n-(m+d) by omega]
 simp only[List.replicate_zero,List.nil_append]
 rw[←List.append_assoc,List.replicate_append_replicate]
set_option maxRecDepth 100000 in
theorem tZ {w:World} (b:Nat) (x:Int) (n:Nat) (h1:1≤n) (hn:n≤100000) (hb:b<w.heap.size) (hx:w.cell? ⟨b,0,none⟩=some (.int .u64 x)):
  Calls Tryz.prog 117 #[.slice (some ⟨b,0,none⟩) 1 1, .int .i64 (n:Int)] w fun e w'=> ∃v,e= .returned v∧Ext w w'∧Own u64E w' w.heap.size 38 v (List.replicate n x):=by
 have H1:=aA (mul_one n (by omega) w)
 have hu:=T_u64s.under
 have hinf:(Tryz.prog.info? 38).map (fun i=>(i.zero,i.size,i.bytes))=some (some (.int .u64 0),1,8):=by kernel_rfl
 have hsz:(Tryz.prog.info? 38).map (·.size)=some 1:=by kernel_rfl
 have hmk:=run_make_row' (P:=Tryz.prog) 78 38 (.int .u64 0) 8 hu hinf rfl .i64 .i64 n (by omega) (by omega)
 have e1:IntKind.i64.wrap (n:Int)=(n:Int):=IntWalk.i64_in _ (by omega)
 have e2:IntKind.u64.wrap (n:Int)=(n:Int):=by rw[IntKind.wrap_u64];omega
 have g1: ¬((n:Int)<0):=by omega
 have g2: ¬((9223372036854775807:Int)<(n:Int)):=by omega
 have HSZ:=aA hsz
 have HU:=aA hu
 clear hsz hu hinf
 go_enter Tryz.func117,Tryz.ntmps117
 go_upto_region 7 with(first|(go_at_call 83;refine(H1.out).mono ?_;rintro e w' ⟨rfl,hw⟩;rw[hw];clear hw))
 obtain⟨w1,hw1⟩: ∃w1,w1=w.alloc (.cells (madeCells #[.int .u64 0] n) 38):=⟨_,rfl⟩
 have hx1:Ext w w1:=by rw[hw1];exact z_x
 have r1:w1.heap[w.heap.size]? =some (.cells (rowU x n 0).toArray 38 (0,0)):=by
  rw[hw1,kC]
  congr 1
  congr 1
  apply Array.toList_inj.1
  rw[toList_madeCells_one]
  simp[rowU]
 have x1:=(hx1.cell (p:=⟨b,0,none⟩) hb).trans hx
 rw[←hw1]
 clear hw1 hmk
 have R1:=aA r1
 have X1:=aA x1
 have HX1:=aA hx1
 clear r1 x1 hx1
 have hmin:([Value.int .u64 x]:List Value).length=Nat.min 1 n:=(Nat.min_eq_left h1).symm
 have hfit:0+([Value.int .u64 x]:List Value).length≤(rowU x n 0).length:=by rw[aAd (by omega)];simp;omega
 have hpos:0<([Value.int .u64 x]:List Value).length→some (⟨w.heap.size,0,none⟩:Addr)=some ⟨w.heap.size,0,none⟩∧ ∃ad,some (⟨b,0,none⟩:Addr)=some ad∧ ∀j v,([Value.int .u64 x]:List Value)[j]? =some v→w1.cell? (ad.add j)=some v:=fun _=>⟨rfl,_,rfl,fun j v hj=>by
  cases j with
  |zero=>simp at hj;subst hj;exact X1.out
  |succ j=>simp at hj⟩
 have hone: ∀v∈[Value.int .u64 x],v.oneCell'=true:=fun v hv=>by simp at hv;subst hv;rfl
 have HP:=aA hpos
 have HO:=aA hone
 clear hpos hone
 go_wp2_with (with_reducible refine wpList_copy_splice rfl (.tmp 31) (.tmp 32) 78 78 rfl 38 HU.out HSZ.out (some ⟨w.heap.size,0,none⟩) (some ⟨b,0,none⟩) n n 1 1 rfl rfl w.heap.size 0 (rowU x n 0) 38 R1.out [.int .u64 x] hmin HP.out hfit HO.out w.heap.size w HX1.out.below (Nat.le_refl _) ?_;intro w2 hg2 hb2;have hb2h:=aA hb2;clear hb2)
 have R2:Hid (w2.heap[w.heap.size]? =some (.cells (rowU x n 1).toArray 38 (0,0))):=by
  have e:=rX (x:=x) (n:=n) (m:=0) (d:=1)
  rw[show List.replicate 1 (Value.int .u64 x)=[Value.int .u64 x] from rfl,Nat.zero_add]at e
  rw[←e]
  exact hg2
 clear hg2 R1 X1 HX1 HP HO H1
 go_loopw [8] (fun i wr=> ∃m:Nat,1≤m∧m≤n∧i= .int .i64 m∧wr.heap[w.heap.size]? =some (.cells (rowU x n m).toArray 38 (0,0))∧Below w.heap.size w wr) (fun i _=>n-(intOf i).toNat)
 case atStart=>exact⟨1,Nat.le_refl _,h1,rfl,R2.out,hb2h.out⟩
 obtain⟨m,hm1,hmn,rfl,hrow,hbel⟩:=hrel
 have HR:=aA hrow
 have HB:=aA hbel
 have hz:=hbel.size
 clear hrow hbel R2 hb2h
 by_cases hlt:m<n
 ·have hli:(m:Int)<(n:Int):=by omega
  have hli0:(0:Int)≤(m:Int):=by omega
  obtain⟨d,hd,hd1,hd2⟩: ∃d,d=min m (n-m)∧1≤d∧m+d≤n:=⟨_,rfl,by omega,by omega⟩
  have c1:(List.replicate d (Value.int .u64 x)).length=Nat.min m (n-m):=by rw[List.length_replicate];exact hd
  have c2:m+(List.replicate d (Value.int .u64 x)).length≤(rowU x n m).length:=by rw[aAd hmn,List.length_replicate];exact hd2
  have c3:=aA (fun(wq:World) (hq:wq.heap[w.heap.size]? =some (.cells (rowU x n m).toArray 38 (0,0)))=>(fun _=>⟨if_neg (by omega),_,rfl,fun j v hj=>by
   rw[List.getElem?_replicate]at hj
   split at hj
   ·cases hj
    have:(wq.cell? ((⟨w.heap.size,0,none⟩:Addr).add j))=(rowU x n m)[j]? :=by
     rw[show((⟨w.heap.size,0,none⟩:Addr).add j)=⟨w.heap.size,j,none⟩ by simp[Addr.add];exact fun h=>h.symm]
     simp[World.cell?,hq]
    rw[this]
    exact aLq (by omega)
   cases hj⟩:0<(List.replicate d (Value.int .u64 x)).length→(if n=m then some (⟨w.heap.size,0,none⟩:Addr) else some ⟨w.heap.size,m,none⟩)=some ⟨w.heap.size,m,none⟩∧ ∃ad,some (⟨w.heap.size,0,none⟩:Addr)=some ad∧ ∀j v,(List.replicate d (Value.int .u64 x))[j]? =some v→wq.cell? (ad.add j)=some v))
  have c4:=aA (fun v hv=>by rw[List.eq_of_mem_replicate hv];rfl: ∀v∈List.replicate d (Value.int .u64 x),v.oneCell'=true)
  have HSP:=aA (rX (x:=x) (n:=n) (m:=m) (d:=d))
  have c5:=aA c1
  have c6:=aA c2
  clear c1 c2
  go_wp2_with fail
  have HDD:=aA hd
  clear hd
  have k1:IntKind.i64.wrap ((m:Int)+(d:Int))=(m:Int)+(d:Int):=IntWalk.i64_in _ (by omega)
  have k2:(List.replicate d (Value.int .u64 x)).length=d:=List.length_replicate
  refine wp_region_held_drew (S:=(fun _=>True)) (by kernel_rfl) trivial (fun hK0=> ?_)
  (((refine bE 0 ?_;try simp only[zz]));((refine bE 1 ?_;try simp only[zz]));((refine bE 2 ?_;try simp only[zz]));((refine bE 3 ?_;try simp only[zz]));((refine bE 4 ?_;try simp only[zz]));((refine bE 5 ?_;try simp only[zz]));((refine bE 6 ?_;try simp only[zz])))
  refine wpAnyH_ready (rs:=[7]) (by kernel_rfl) (by simp) ?_
  refine AllReadyH.cons (o:= ?go) ?ghi (fun K hK=> ?_) AllReadyH.nil
  case ghi=>(simp only[List.getElem?_toArray,List.getElem?_cons_succ,List.getElem?_cons_zero];rfl)
  refine step_copy_splice rfl (.tmp 41) (.tmp 44) 78 78 rfl 38 HU.out HSZ.out (if n=m then some (⟨w.heap.size,0,none⟩:Addr) else some ⟨w.heap.size,m,none⟩) (some ⟨w.heap.size,0,none⟩) (n-m) (n-m) m n rfl rfl w.heap.size m (rowU x n m) 38 HR.out (List.replicate d (.int .u64 x)) c5.out (c3.out _ HR.out) c6.out c4.out w.heap.size w HB.out.drew (Nat.le_refl _) ?_
  intro w4 hg4 hb4
  refine hK.out _ _ trivial (fun hK0=> ?_)
  clear hK K
  simp only[Act.put,List.setIfInBounds_toArray,List.set_cons_zero,List.set_cons_succ]
  rw[k2]
  (((refine bE 8 ?_;try simp only[zz]));((refine bE 9 ?_;try simp only[zz])))
  refine wpAnyH_done (by kernel_rfl) ?_ _
  have HG4:=aA hg4
  have HB4:=aA hb4
  clear hg4 hb4
  go_wp2
  go_roundw
  case rel=>exact⟨m+d,by omega,hd2,by go_num,by rw[←HSP.out];exact HG4.out.out,HB4.out⟩
  simp[intOf];omega
 obtain rfl:m=n:=by omega
 go_wp2
 go_ret
 exact⟨_,rfl,HB.out,by
  have hrw:=HR.out
  unfold Own
  rw[List.length_replicate,aKd,List.map_replicate]
  refine⟨by simp[u64E], .inr ⟨w.heap.size,m,_,rfl,Nat.le_refl _,hrw,Nat.le_refl _,by unfold maxLen;omega,by simp[rowU,u64E],by simp[rowU,u64E]⟩⟩⟩
end Go.Proofs.YtaellcgglldjaaaGreat

namespace Go.Proofs.YtaellcgglldjaaaGreat
open Go.RowKit
theorem mS {α:Type} (E:Enc α) {P:Program} {t e:TypeId} {z:Value} {bytes:Nat} (T:cH P t e z E.size bytes)
  {ops:Array Oper} {rest:List Oper} {o:Oper} {a:Act} {Q:Exit→Act→World→Prop} {w:World}
  (hg:o.guard=none) (l c:Operand) (hop:o.op=Op.makeSlice t l c) (base n:Nat) (hl:a.eval l= .int .i64 0) (hc:a.eval c= .int .i64 (n:Int)) (hn:n≤1000000) (hby:bytes≤1000) (b4:base≤w.heap.size)
  (hK: ∀g w',Own E w' base e (.slice (some ⟨g,0,none⟩) 0 n) []→Ext w w'→wpList P ops Q rest (a.put o.dst (.slice (some ⟨g,0,none⟩) 0 n)) w'):
  wpList P ops Q (o::rest) a w:=by
 obtain⟨i0,hi,hz0,hz1,hz2⟩:=info_parts T.info
 have hb:bytes*n≤281474976710656:=Nat.le_trans (Nat.mul_le_mul hby hn) (by decide)
 refine wpList_make_own w hg l c t hop base e i0 z E.size T.under hi hz0 hz1 .i64 .i64 _ n hl hc rfl (by rw[hz2];exact hb) (by unfold maxLen;omega) b4 ?_
 intro w' hown hgrow
 exact hK w.heap.size w' hown ((Ext.refl w).grown hgrow (by simp))
theorem pK {β:Type} (l:List aB) (g:aB→β) {k:Nat} {q:aB} (h:l[k]? =some q):(l.take (k+1)).map g=(l.take k).map g++[g q]:=by
 rw[List.take_add_one,h,List.map_append]
 rfl
set_option maxRecDepth 100000 in
set_option maxHeartbeats 400000 in
theorem aBd {w:World} {a:Option Addr} {l:List aB} (c:Nat) {f:Nat} {caps:Array Value} {g:aB→Int} (hl:l.length≤1000000) (hr:RowC w a l)
  (hf: ∀w',Ext w w'→ ∀q,q∈l→Calls Tryz.prog f (#[.agg #[.int .i64 q.1, .int .i64 q.2]]++caps) w' fun e w2=>e= .returned (.int .u64 (g q))∧Ext w' w2)
  (eg: ∀args w,(callFunc f args).run Tryz.prog w= .ok (.enter f args) w):
  Calls Tryz.prog 175 #[.slice a l.length c, .func (.func f) #[] caps] w fun e w'=> ∃v,e= .returned v∧Ext w w'∧Own u64E w' w.heap.size 38 v (l.map g):=by
 have HF:=aA hf
 have HR:=aA hr
 obtain⟨n,hnn⟩: ∃n,l.length=n:=⟨_,rfl⟩
 have HN:=aA hnn
 rw[hnn]at hl⊢
 clear hf hr hnn
 go_enter Tryz.func175,Tryz.ntmps175
 go_wp2_with (at_make;refine mS u64E T_u64s rfl _ _ rfl w.heap.size n rfl rfl (by omega) (by decide) (Nat.le_refl _) ?_)
 intro g0 w1 ho1 hx1
 have O1:=aA ho1
 have X1:=aA hx1
 clear ho1 hx1
 go_wp2_with fail
 go_loopw [5,13] (fun ov iv wr=> ∃k:Nat,k≤n∧iv= .int .i64 k∧Own u64E wr w.heap.size 38 ov ((l.take k).map g)∧Ext w wr) (fun _ iv _=>n-(intOf iv).toNat)
 case atStart=>exact⟨0,Nat.zero_le _,rfl,O1.out,X1.out⟩
 obtain⟨k,hk,rfl,ho,hx⟩:=hrel
 have O:=aA ho
 have X:=aA hx
 have hz:=hx.size
 clear ho hx O1 X1
 by_cases hlt:k<n
 ·obtain⟨q,hq⟩: ∃q,l[k]? =some q:=⟨_,zG (by rw[HN.out];exact hlt)⟩
  obtain⟨b,off,rfl,hb,hc⟩:=HR.out (by rw[HN.out];omega)
  obtain⟨hkl,hql⟩:=zJ hq
  have h1:=hc k hkl
  rw[hql]at h1
  have d0:=(X.out.cell (p:=⟨b,off+k*2,none⟩) hb).trans h1.1
  have d1:=(X.out.cell (p:=⟨b,off+k*2+1,none⟩) hb).trans h1.2
  have hbw:b<wr.heap.size:=by omega
  have HQ:=aA (fun w' (hx:Ext wr w')=>HF.out w' (X.out.trans hx) q (List.mem_of_getElem? hq))
  have HT:=aA (pK l g hq)
  have hll:((l.take k).map g).length=k:=by rw[List.length_map,List.length_take];omega
  have HLL:=aA hll
  have jk:(k:Int)<(n:Int):=by omega
  clear hq hc hkl hql h1 hll
  go_wp2_with fail
  refine(HQ.out _ z_x).mono ?_
  rintro e w2 ⟨rfl,hb2⟩
  have hx2:Ext wr w2:=z_x
  have O2:=aA (O.out.ext hx2)
  have X2:=aA (X.out.trans hx2)
  have hz2:=hx2.size
  clear hb2 hx2
  go_wp2_with (at_builtin;refine dA u64E T_u64s rfl _ _ rfl w.heap.size _ _ ((l.take k).map g) rfl O2.out (g q) _ _ rfl _ rfl rfl (by rw[HLL.out];omega) (by rw[HLL.out];omega) (by omega) ?_;intro g9 c9 w9 hown9 hb9;have O9:=aA hown9;have X9:=aA (X2.out.of_below hb9 (Nat.le_refl _));clear hown9 hb9)
  go_roundw
  case rel=>exact⟨k+1,hlt,by go_num,by rw[HT.out,show min k l.length=k by rw[HN.out];omega];have h:=O9.out;rw[HLL.out]at h;exact h,X9.out⟩
  simp[intOf];omega
 obtain rfl:k=n:=by omega
 go_wp2_with fail
 go_ret
 exact⟨_,rfl,X.out,by have h:=O.out;rw[List.take_of_length_le (by rw[HN.out];exact Nat.le_refl _)]at h;exact h⟩
theorem aLm {w:World} {base:Nat} {v:Value} {l:List Int} (h:Own u64E w base 38 v l) (hl:0<l.length): ∃g c,v= .slice (some ⟨g,0,none⟩) l.length c:=by
 rcases h.2 with⟨_,h0⟩|⟨g,cap,cur,hv,_⟩
 ·omega
 exact⟨g,cap,hv⟩
def iG:Enc (Option Addr×Nat×Nat):=⟨1,fun s=>[.slice s.1 s.2.1 s.2.2],fun _=>rfl,fun _ u hu=>by simp at hu;subst hu;rfl⟩
theorem sV:cH Tryz.prog 119 78 (.slice none 0 0) 1 24:=⟨Tryz.underlying119,by kernel_rfl,rfl,by decide⟩
def RowsAt (w:World) (base:Nat) (v:Value) (ll:List (List Int)):Prop:=
 ∃ss:List (Option Addr×Nat×Nat),Own iG w base 78 v ss∧ss.length=ll.length∧ ∀(i:Nat) (s:Option Addr×Nat×Nat) (r:List Int),ss[i]? =some s→ll[i]? =some r→Own u64E w base 38 (.slice s.1 s.2.1 s.2.2) r
theorem RowsAt.ext {w w':World} {base:Nat} {v:Value} {ll:List (List Int)} (h:RowsAt w base v ll) (e:Ext w w'):RowsAt w' base v ll:=by
 obtain⟨ss,h1,h2,h3⟩:=h
 exact⟨ss,h1.ext e,h2,fun i s r hs hr=>(h3 i s r hs hr).ext e⟩
theorem RowsAt.snoc {w w':World} {base:Nat} {v':Value} {ll:List (List Int)} {ss:List (Option Addr×Nat×Nat)} {s:Option Addr×Nat×Nat} {r:List Int}
  (h2:ss.length=ll.length) (h3: ∀(i:Nat) (s:Option Addr×Nat×Nat) (r:List Int),ss[i]? =some s→ll[i]? =some r→Own u64E w base 38 (.slice s.1 s.2.1 s.2.2) r) (ho:Own iG w' base 78 v' (ss++[s])) (hr:Own u64E w' base 38 (.slice s.1 s.2.1 s.2.2) r)
  (hk: ∀(x:Option Addr×Nat×Nat) (y:List Int),Own u64E w base 38 (.slice x.1 x.2.1 x.2.2) y→Own u64E w' base 38 (.slice x.1 x.2.1 x.2.2) y):RowsAt w' base v' (ll++[r]):=by
 refine⟨ss++[s],ho,by simp[h2],fun i x y hx hy=> ?_⟩
 by_cases hi:i<ss.length
 ·rw[List.getElem?_append_left hi]at hx
  rw[List.getElem?_append_left (by omega)]at hy
  exact hk x y (h3 i x y hx hy)
 rw[List.getElem?_append_right (by omega)]at hx
 rw[List.getElem?_append_right (by omega)]at hy
 have hi0:i-ss.length=0:=by
  have:=(zJ hx).1
  simp at this
  omega
 rw[hi0]at hx
 rw[←h2,hi0]at hy
 simp at hx hy
 subst hx hy
 exact hr
theorem jT {α β:Type} {E:Enc α} {E':Enc β} {w:World} {base base':Nat} {e e':TypeId} {v v':Value} {l:List α} {l':List β} (h:Own E w base e v l) (h':Own E' w base' e' v' l') (hne:e≠e') {k:Nat} (hk:v.ownBlock=some k):v'.ownBlock≠some k:=by
 rcases h.2 with⟨rfl,_⟩|⟨g,cap,cur,rfl,_,hg,_⟩
 ·simp[Value.ownBlock]at hk
 rcases h'.2 with⟨rfl,_⟩|⟨g',cap',cur',rfl,_,hg',_⟩
 ·simp[Value.ownBlock]
 intro he
 have e1:g=k:=by simpa [Value.ownBlock] using hk
 have e2:g'=k:=by simpa [Value.ownBlock] using he
 subst e1 e2
 rw[hg]at hg'
 injection hg' with hg'
 injection hg' with _ ht
 exact hne ht
set_option maxRecDepth 100000 in
set_option maxHeartbeats 400000 in
theorem aBc {w:World} {a:Option Addr} {l:List aB} (c:Nat) {f:Nat} {caps:Array Value} {g:aB→List Int} (hl:l.length≤1000000) (hr:RowC w a l)
  (hf: ∀w',Ext w w'→ ∀q,q∈l→Calls Tryz.prog f (#[.agg #[.int .i64 q.1, .int .i64 q.2]]++caps) w' fun e w2=> ∃s:Option Addr×Nat×Nat,e= .returned (.slice s.1 s.2.1 s.2.2)∧Ext w' w2∧Own u64E w2 w'.heap.size 38 (.slice s.1 s.2.1 s.2.2) (g q))
  (eg: ∀args w,(callFunc f args).run Tryz.prog w= .ok (.enter f args) w):
  Calls Tryz.prog 139 #[.slice a l.length c, .func (.func f) #[] caps] w fun e w'=> ∃v,e= .returned v∧Ext w w'∧RowsAt w' w.heap.size v (l.map g):=by
 have HF:=aA hf
 have HR:=aA hr
 obtain⟨n,hnn⟩: ∃n,l.length=n:=⟨_,rfl⟩
 have HN:=aA hnn
 rw[hnn]at hl⊢
 clear hf hr hnn
 go_enter Tryz.func139,Tryz.ntmps139
 go_wp2_with (at_make;refine mS iG sV rfl _ _ rfl w.heap.size n rfl rfl (by omega) (by decide) (Nat.le_refl _) ?_)
 intro g0 w1 ho1 hx1
 have O1:=aA (show RowsAt w1 w.heap.size (.slice (some ⟨g0,0,none⟩) 0 n) [] from⟨[],ho1,rfl,fun i s r h=>by simp at h⟩)
 have X1:=aA hx1
 clear ho1 hx1
 go_wp2_with fail
 go_loopw [5,13] (fun ov iv wr=> ∃k:Nat,k≤n∧iv= .int .i64 k∧RowsAt wr w.heap.size ov ((l.take k).map g)∧Ext w wr) (fun _ iv _=>n-(intOf iv).toNat)
 case atStart=>exact⟨0,Nat.zero_le _,rfl,O1.out,X1.out⟩
 obtain⟨k,hk,rfl,ho,hx⟩:=hrel
 have O:=aA ho
 have X:=aA hx
 have hz:=hx.size
 clear ho hx O1 X1
 by_cases hlt:k<n
 ·obtain⟨q,hq⟩: ∃q,l[k]? =some q:=⟨_,zG (by rw[HN.out];exact hlt)⟩
  obtain⟨b,off,rfl,hb,hc⟩:=HR.out (by rw[HN.out];omega)
  obtain⟨hkl,hql⟩:=zJ hq
  have h1:=hc k hkl
  rw[hql]at h1
  have d0:=(X.out.cell (p:=⟨b,off+k*2,none⟩) hb).trans h1.1
  have d1:=(X.out.cell (p:=⟨b,off+k*2+1,none⟩) hb).trans h1.2
  have hbw:b<wr.heap.size:=by omega
  have HQ:=aA (fun w' (hx:Ext wr w')=>HF.out w' (X.out.trans hx) q (List.mem_of_getElem? hq))
  have HT:=aA (pK l g hq)
  obtain⟨ss,s1,s2,s3⟩:=O.out
  have S1:=aA s1
  have S2:=aA s2
  have S3:=aA s3
  have hll:ss.length=k:=by rw[s2,List.length_map,List.length_take];omega
  have HLL:=aA hll
  have jk:(k:Int)<(n:Int):=by omega
  clear hq hc hkl hql h1 hll s1 s2 s3
  go_wp2_with fail
  refine(HQ.out _ z_x).mono ?_
  rintro e w2 ⟨sv,rfl,hb2,ho2⟩
  have hx2:Ext wr w2:=z_x
  have O2:=aA (S1.out.ext hx2)
  have R2:=aA (ho2.lower (base':=w.heap.size) (by simp;omega))
  have X2:=aA (X.out.trans hx2)
  have XR2:=aA hx2
  have hz2:=hx2.size
  clear hb2 hx2 ho2
  have FIN:Hid (∀g9 c9 w9,Own iG w9 w.heap.size 78 (.slice (some ⟨g9,0,none⟩) (ss.length+1) c9) (ss++[sv])→Touch (fun k=>Value.ownBlock u5=some k) w2 w9→RowsAt w9 w.heap.size (.slice (some ⟨g9,0,none⟩) (ss.length+1) c9) ((l.take (k+1)).map g)∧Ext w w9):=aA (fun g9 c9 w9 o9 t9=>by
   have hs3: ∀(x:Option Addr×Nat×Nat) (y:List Int),Own u64E w2 w.heap.size 38 (.slice x.1 x.2.1 x.2.2) y→Own u64E w9 w.heap.size 38 (.slice x.1 x.2.1 x.2.2) y:=fun x y hy=>Own.touch hy t9 (fun k hk hu=>jT O2.out hy (by decide) hu hk)
   refine⟨?_,X2.out.of_below (Touch.to_below (B:=w.heap.size) t9 (by omega) (fun k h=>(aF O2.out h).1)) (Nat.le_refl _)⟩
   rw[HT.out]
   exact RowsAt.snoc (w:=w2) S2.out (fun i s r h1 h2=>(S3.out i s r h1 h2).ext XR2.out) o9 (hs3 sv _ R2.out) hs3)
  go_wp2_with (at_builtin;refine dD iG sV rfl _ _ rfl w.heap.size _ _ ss rfl O2.out sv _ _ rfl _ rfl rfl (by rw[HLL.out];omega) (by rw[HLL.out];omega) (by omega) ?_;intro g9 c9 w9 hown9 t9 l9;have F9:=aA (FIN.out _ _ _ hown9 t9);clear hown9 t9 l9)
  go_roundw
  case rel=>exact⟨k+1,hlt,by go_num,F9.out.1,F9.out.2⟩
  simp[intOf];omega
 obtain rfl:k=n:=by omega
 go_wp2_with fail
 go_ret
 exact⟨_,rfl,X.out,by have h:=O.out;rw[List.take_of_length_le (by rw[HN.out];exact Nat.le_refl _)]at h;exact h⟩
end Go.Proofs.YtaellcgglldjaaaGreat

