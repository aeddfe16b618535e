/- Part of a proof: InF RedA RedB. -/
import Derived.Test.YtaellcgglldjaaaGreatHierFindsQ14
import Derived.Test.YtaellcgglldjaaaGreatHierFindsQ15
set_option linter.all false
set_option linter.unusedVariables false
set_option linter.unusedSimpArgs false
namespace Go.Proofs.YtaellcgglldjaaaGreat
open Go.RowKit
def toE (W H:Int) (n:Nat) (PW PH s id:Int) (cs:List aB) (p:aB):Int:=if dM W H n PW PH s id cs=0 then eA W H n (aR W s id) (aO W s id) (aZ W s id) (bA W H s id) p.1 p.2 else dM W H n PW PH s id cs
theorem aMj {W H:Int} {n:Nat} {PW PH s id:Int} {cs:List aB} {p:aB} (h:toE W H n PW PH s id cs p=0):dM W H n PW PH s id cs=0∧eA W H n (aR W s id) (aO W s id) (aZ W s id) (bA W H s id) p.1 p.2=0:=by
 unfold toE at h
 split at h
 ·next h1=>exact⟨h1,h⟩
 next h1=>exact absurd h h1
set_option maxRecDepth 100000 in
theorem aMb {w:World} {W H:Int} {a:Option Addr} {l:List Int} (c:Nat) {PW PH s id:Int} {ca:Option Addr} {cs:List aB} (cc:Nat) (ra:Option Addr) (rn rc:Nat) {p:aB} (hr:Row16 w a l) (hc:RowC w ca cs) (hl:cs.length≤1000000) (hi: ∀p∈cs,InI p.1∧InI p.2) (he:toE W H l.length PW PH s id cs p=0) (L:fE W H s id l):
  Calls Tryz.prog 154 #[.agg #[.int .i64 W, .int .i64 H, .slice a l.length c], .agg #[.int .i64 PW, .int .i64 PH, .int .i64 s], .int .i64 id, .agg #[.slice ca cs.length cc, .slice ra rn rc], .agg #[.int .i64 p.1, .int .i64 p.2]] w fun e w'=> ∃sv:Option Addr×Nat×Nat,e= .returned (.tuple #[.slice sv.1 sv.2.1 sv.2.2, .int .i64 0])∧Ext w w'∧Own u64E w' w.heap.size 38 (.slice sv.1 sv.2.1 sv.2.2) (fS L cs p):=by
 obtain⟨h0,h1⟩:=aMj he
 obtain⟨e1,e2,e3,e4,e5,e6⟩:=innerE_ok.1 h0
 have hok:=yF e4 e5 e6
 have HL:=aA (fun(w':World) (hx:Ext w w')=>wA (w:=w') W H a l.length c PW PH s id ca cs cc (hc.ext hx) hl hi)
 rw[h0]at HL
 have HF:=aA (fun(w':World) (hx:Ext w w')=>aD0 (w:=w') L c p (lookE_ok.1 h1).2.2.2 cc hok hl (hr.ext hx) (hc.ext hx))
 obtain⟨x,y⟩:=p
 obtain⟨n,hn⟩: ∃z,l.length=z:=⟨_,rfl⟩
 obtain⟨m,hm⟩: ∃z,cs.length=z:=⟨_,rfl⟩
 rw[hn,hm]at HL HF⊢
 clear hc hi he hr hok hn hm e1 e2 e3 e4 e5 e6 h0 h1 hl
 simp only at HF⊢
 go_enter Tryz.func154,Tryz.ntmps154
 go_wp2_with fail
 refine(HL.out _ z_x).mono ?_
 rintro e w1 ⟨⟨v,rfl,hv⟩,hb1⟩
 obtain⟨hc1,hf1⟩:=hb1.cells;have hz1:=hb1.size;(try simp only[zS]at hz1);have z1_0:w.heap.size<w1.heap.size:=(by omega);have z1_1:w.heap.size+1<w1.heap.size:=(by omega);have z1_2:w.heap.size+2<w1.heap.size:=(by omega);have z1_3:w.heap.size+3<w1.heap.size:=(by omega)
 rcases hv with⟨h0,_⟩|⟨_,rfl⟩
 ·exact absurd rfl h0
 go_wp2_with fail
 refine(HF.out _ z_x).mono ?_
 rintro e w2 ⟨sv,rfl,hb2,ho2⟩
 have hx2:Ext w w2:=z_x
 have hz1:w.heap.size≤w1.heap.size:=by omega
 have O2:=aA (ho2.lower (base':=w.heap.size) (by simp;omega))
 clear ho2 hb2
 go_wp2_with fail
 go_ret2
 exact⟨sv,rfl,hx2,O2.out⟩
def RowU (w:World) (a:Option Addr) (l:List Int):Prop:=0<l.length→ ∃b off,a=some ⟨b,off,none⟩∧b<w.heap.size∧ ∀k (h:k<l.length),w.cell? ⟨b,off+k,none⟩=some (.int .u64 l[k])
theorem RowU.ext {w w':World} {a:Option Addr} {l:List Int} (h:RowU w a l) (e:Ext w w'):RowU w' a l:=fun h0=>by
 obtain⟨b,off,ha,hb,hc⟩:=h h0
 exact⟨b,off,ha,Nat.lt_of_lt_of_le hb e.size,fun k hk=>(e.cell (p:=⟨b,off+k,none⟩) hb).trans (hc k hk)⟩
theorem Reads.rowU {w:World} {a:Option Addr} {n c:Nat} {l:List Int} (h:Reads u64E w (.slice a n c) l):n=l.length∧RowU w a l:=by
 rcases h with⟨hv,rfl⟩|⟨b,off,cap,hv,hb,hc⟩
 ·injection hv with h1 h2 _
  exact⟨h2,fun h=>by simp at h⟩
 injection hv with h1 h2 _
 refine⟨h2,fun _=>⟨b,off,h1,hb,fun k hk=> ?_⟩⟩
 have:=hc k l[k] (zG hk) 0 (.int .u64 l[k]) rfl
 simpa [u64E] using this
set_option maxRecDepth 100000 in
theorem xC (a b:Option Addr) (l m:List aB) (c d:Nat) (w:World) (hl:l.length≤1000000) (ha:RowC w a l) (hb:RowC w b m):
  Calls Tryz.prog 80 #[.slice a l.length c, .slice b m.length d] w fun e w'=>e= .returned (.bool (decide (l=m)))∧Ext w w':=by
 by_cases hlen:l.length=m.length
 ·have HA:=aA ha
  have HB:=aA hb
  have HLM:=aA hlen
  obtain⟨n,hn⟩: ∃n,l.length=n:=⟨_,rfl⟩
  have HN:=aA hn
  rw[←hlen,hn]
  rw[hn]at hl
  clear ha hb hlen hn
  go_enter Tryz.func80,Tryz.ntmps80
  go_wp2_with fail
  go_loopw [13] (fun i wr=> ∃k:Nat,k≤n∧i= .int .i64 k∧l.take k=m.take k∧Ext w wr) (fun i _=>n-(intOf i).toNat)
  case atStart=>exact⟨0,Nat.zero_le _,rfl,rfl,z_x⟩
  obtain⟨k,hk,rfl,htk,hx⟩:=hrel
  have HT:=aA htk
  have HX:=aA hx
  clear htk hx
  by_cases hlt:k<n
  ·have h1:k<l.length:=by rw[HN.out];exact hlt
   have h2:k<m.length:=by rw[←HLM.out];exact h1
   obtain⟨ba,oa,rfl,za,ca⟩:=HA.out (by omega)
   obtain⟨bb,ob,rfl,zb,cb⟩:=HB.out (by omega)
   have d0:=(HX.out.cell (p:=⟨ba,oa+k*2,none⟩) za).trans (ca k h1).1
   have d2:=(HX.out.cell (p:=⟨ba,oa+k*2+1,none⟩) za).trans (ca k h1).2
   have d1:=(HX.out.cell (p:=⟨bb,ob+k*2,none⟩) zb).trans (cb k h2).1
   have d3:=(HX.out.cell (p:=⟨bb,ob+k*2+1,none⟩) zb).trans (cb k h2).2
   have z0:ba<wr.heap.size:=Nat.lt_of_lt_of_le za HX.out.size
   have z1:bb<wr.heap.size:=Nat.lt_of_lt_of_le zb HX.out.size
   have jk:(k:Int)<(n:Int):=by omega
   have e1:l[k]? =some l[k]:=zG h1
   have e2:m[k]? =some m[k]:=zG h2
   obtain⟨x,hx⟩: ∃x,l[k]=x:=⟨_,rfl⟩
   obtain⟨y,hy⟩: ∃y,m[k]=y:=⟨_,rfl⟩
   rw[hx]at d0 d2 e1
   rw[hy]at d1 d3 e2
   have E1:=aA e1
   have E2:=aA e2
   clear h1 h2 ca cb hx hy e1 e2
   by_cases hxy:x=y
   ·have HN1:Hid (l.take (k+1)=m.take (k+1)):=aA (by rw[List.take_add_one,List.take_add_one,E1.out,E2.out,HT.out,hxy])
    have hq1: ∀w,(Op.equalIn 10000 28 (.agg #[.int .i64 x.1, .int .i64 x.2]) (.agg #[.int .i64 y.1, .int .i64 y.2])).run Tryz.prog w= .ok true w:=fun w=>by rw[bC x y w,bB];simp[hxy]
    have hx:=HX.out
    clear hxy
    go_wp2
    go_quiet (fail)
    go_wp2
    go_roundw
    case rel=>exact⟨k+1,hlt,by go_num,HN1.out,z_x⟩
    simp[intOf];omega
   have HF:Hid (decide (l=m)=false):=aA (by simp only[decide_eq_false_iff_not];intro e;rw[e,E2.out]at E1;exact hxy (Option.some.inj E1.out).symm)
   have hq1: ∀w,(Op.equalIn 10000 28 (.agg #[.int .i64 x.1, .int .i64 x.2]) (.agg #[.int .i64 y.1, .int .i64 y.2])).run Tryz.prog w= .ok false w:=fun w=>by rw[bC x y w,bB];simp[hxy]
   clear hxy
   have hx:=HX.out
   go_wp2
   go_quiet (fail)
   go_wp2
   go_ret
   exact⟨by rw[HF.out]<;>rfl,z_x⟩
  obtain rfl:n=k:=by omega
  have HF:Hid (decide (l=m)=true):=aA (by
   have h:=HT.out
   rw[List.take_of_length_le (by rw[HN.out];exact Nat.le_refl _),List.take_of_length_le (by rw[←HLM.out,HN.out];exact Nat.le_refl _)]at h
   simpa using h)
  have hx:=HX.out
  go_wp2
  go_ret
  exact⟨by rw[HF.out]<;>rfl,z_x⟩
 have HF:Hid (decide (l=m)=false):=aA (by simp only[decide_eq_false_iff_not];intro e;exact hlen (by rw[e]))
 have hb0:((l.length:Int) !=(m.length:Int))=true:=by simp;omega
 obtain⟨n,hn⟩: ∃n,l.length=n:=⟨_,rfl⟩
 obtain⟨n2,hn2⟩: ∃n,m.length=n:=⟨_,rfl⟩
 have hb1:(n !=n2)=true:=by simp;omega
 rw[hn,hn2]at hb0⊢
 clear ha hb hlen hn hn2
 go_enter Tryz.func80,Tryz.ntmps80
 go_wp2
 go_ret
 exact⟨by rw[HF.out]<;>rfl,z_x⟩
def RowsU (w:World) (a:Option Addr) (ll:List (List Int)):Prop:=0<ll.length→ ∃b off,a=some ⟨b,off,none⟩∧b<w.heap.size∧ ∀k (h:k<ll.length),∃sa sc,w.cell? ⟨b,off+k,none⟩=some (.slice sa ll[k].length sc)∧RowU w sa ll[k]
theorem RowsU.ext {w w':World} {a:Option Addr} {l:List (List Int)} (h:RowsU w a l) (e:Ext w w'):RowsU w' a l:=fun h0=>by
 obtain⟨b,off,ha,hb,hc⟩:=h h0
 exact⟨b,off,ha,Nat.lt_of_lt_of_le hb e.size,fun k hk=>by
  obtain⟨sa,sc,h1,h2⟩:=hc k hk
  exact⟨sa,sc,(e.cell (p:=⟨b,off+k,none⟩) hb).trans h1,h2.ext e⟩⟩
theorem iR {w:World} {base:Nat} {v:Value} {ll:List (List Int)} (h:RowsAt w base v ll): ∃a c,v= .slice a ll.length c∧RowsU w a ll:=by
 obtain⟨ss,h1,h2,h3⟩:=h
 obtain⟨a,c,hv⟩:=h1.slice
 subst hv
 refine⟨a,c,by rw[h2],fun h0=> ?_⟩
 rcases h1.2 with⟨_,hz⟩|⟨g,cap,cur,hv,_⟩
 ·omega
 injection hv with ha hb hc
 subst ha
 have hrd:=Reads.cells h1.reads
 refine⟨g,0,rfl,hrd.1,fun k hk=> ?_⟩
 have hks:k<ss.length:=by omega
 have hown:=h3 k ss[k] ll[k] (zG hks) (zG hk)
 have hcell:=hrd.2.2 k ss[k] (zG hks) 0 (.slice ss[k].1 ss[k].2.1 ss[k].2.2) rfl
 have hru:=Reads.rowU hown.reads
 refine⟨ss[k].1,ss[k].2.2,?_,hru.2⟩
 rw[←hru.1]
 simpa [iG] using hcell
theorem RowsAt.u {w:World} {base n c:Nat} {a:Option Addr} {ll:List (List Int)} (h:RowsAt w base (.slice a n c) ll):RowsU w a ll:=by
 obtain⟨x,y,e,h2⟩:=iR h
 cases e
 exact h2
end Go.Proofs.YtaellcgglldjaaaGreat

namespace Go.Proofs.YtaellcgglldjaaaGreat
open Go.RowKit
theorem RowsAt.touch_blk {w w':World} {base tb:Nat} {t:TypeId} {cs:Array Value} {v:Value} {ll:List (List Int)} (h:RowsAt w base v ll) (B:Blk w tb t cs) (h1:78≠t) (h2:38≠t) (tt:Touch (fun j=>j=tb) w w'):RowsAt w' base v ll:=by
 obtain⟨ss,s1,s2,s3⟩:=h
 refine⟨ss,Own.touch s1 tt (fun k hk e=> ?_),s2,fun i s r hs hr=>Own.touch (s3 i s r hs hr) tt (fun k hk e=> ?_)⟩
 ·subst e;exact Blk.ne_own B s1 h1 hk
 subst e;exact Blk.ne_own B (s3 i s r hs hr) h2 hk
theorem aAa {w:World} {a:Option Addr} {l:List Int} (h:Row16 w a l) (h0:0<l.length) (c:Nat):Reads u16G w (.slice a l.length c) l:=by
 obtain⟨b,off,rfl,hb,hc⟩:=h h0
 refine .inr ⟨b,off,c,rfl,hb,fun j v hj i u hu=> ?_⟩
 obtain⟨hjl,rfl⟩:=zJ hj
 have hi:i=0:=by
  have:=(zJ hu).1
  simpa [u16G] using this
 subst hi
 have:u= .int .u16 l[j]:=by simpa [u16G] using hu.symm
 subst this
 have:=hc j hjl
 simpa [u16G] using this
theorem aEt {w:World} {a:Option Addr} {l:List Int} (h:RowU w a l) (h0:0<l.length) (c:Nat):Reads u64E w (.slice a l.length c) l:=by
 obtain⟨b,off,rfl,hb,hc⟩:=h h0
 refine .inr ⟨b,off,c,rfl,hb,fun j v hj i u hu=> ?_⟩
 obtain⟨hjl,rfl⟩:=zJ hj
 have hi:i=0:=by
  have:=(zJ hu).1
  simpa [u64E] using this
 subst hi
 have:u= .int .u64 l[j]:=by simpa [u64E] using hu.symm
 subst this
 have:=hc j hjl
 simpa [u64E] using this
set_option maxRecDepth 100000 in
theorem yG {w:World} {a:Option Addr} {l:List Int} (c:Nat) (hl:l.length≤1000000) (hr:Row16 w a l):
  Calls Tryz.prog 77 #[.slice a l.length c] w fun e w'=> ∃v,e= .returned v∧Ext w w'∧Own u16G w' w.heap.size 84 v l:=by
 have q:=fun(w:World) (a:Option Addr) (n c n' c':Nat)=>Lib.run_eql_slice_nil (P:=Tryz.prog) w _ _ a n c n' c' Tryz.underlying24
 cases a with
 |none=>
  have hl0:l=[]:=by
   cases l with
   |nil=>rfl
   |cons x r=>obtain⟨b,off,h,_⟩:=hr (by simp);cases h
  subst hl0
  clear hr hl
  simp only[List.length_nil]
  go_enter Tryz.func77,Tryz.ntmps77
  go_wp2
  go_ret
  exact⟨_,rfl,Ext.refl _,Own.nil _ _ _ _⟩
 |some ad=>
  by_cases h0:0<l.length
  ·obtain⟨b,off,had,hb,hc⟩:=hr h0
   injection had with had
   subst had
   have RD:=aA (aAa hr h0 c)
   obtain⟨n,hnn⟩: ∃n,l.length=n:=⟨_,rfl⟩
   have HN:=aA hnn
   rw[hnn]at hl h0 RD⊢
   clear hr hc hnn
   go_enter Tryz.func77,Tryz.ntmps77
   go_wp2_with (at_builtin;refine cO u16G aFb rfl _ _ rfl w.heap.size _ [] l rfl (Own.lit0 u16G w _ _ _ rfl (Nat.le_refl _)) _ rfl (RD.out.ext ((Ext.refl _).alloc _)) (by rw[HN.out];simp;omega) (by rw[HN.out];simp;omega) (by simp) ?_;intro v9 w9 o9 t9 l9;have O9:=aA o9;have X9:=aA (((Ext.refl w).alloc (.cells #[] 84)).of_below (t9.to_below (B:=w.heap.size) (by simp) (fun k hk=>by cases hk;exact Nat.le_refl _)) (Nat.le_refl _));clear o9 t9 l9)
   rw[List.nil_append]at O9
   go_ret
   exact⟨_,rfl,X9.out,O9.out⟩
  have hl0:l=[]:=List.length_eq_zero_iff.1 (by omega)
  subst hl0
  clear hr hl h0
  simp only[List.length_nil]
  go_enter Tryz.func77,Tryz.ntmps77
  go_wp2_with (at_builtin;refine gH u16G aFb rfl _ _ rfl w.heap.size _ rfl (Own.lit0 u16G w _ _ _ rfl (Nat.le_refl _)) ad c rfl (by simp) ?_;intro v9 w9 o9 b9;have O9:=aA o9;have X9:=aA (((Ext.refl w).alloc (.cells #[] 84)).of_below b9 (Nat.le_refl _));clear o9 b9)
  go_ret
  exact⟨_,rfl,X9.out,O9.out⟩
set_option maxRecDepth 100000 in
theorem yH {w:World} {a:Option Addr} {l:List Int} (c:Nat) (hl:l.length≤1000000) (hr:RowU w a l):
  Calls Tryz.prog 197 #[.slice a l.length c] w fun e w'=> ∃v,e= .returned v∧Ext w w'∧Own u64E w' w.heap.size 38 v l:=by
 have q:=fun(w:World) (a:Option Addr) (n c n' c':Nat)=>Lib.run_eql_slice_nil (P:=Tryz.prog) w _ _ a n c n' c' Tryz.underlying78
 cases a with
 |none=>
  have hl0:l=[]:=by
   cases l with
   |nil=>rfl
   |cons x r=>obtain⟨b,off,h,_⟩:=hr (by simp);cases h
  subst hl0
  clear hr hl
  simp only[List.length_nil]
  go_enter Tryz.func197,Tryz.ntmps197
  go_wp2
  go_ret
  exact⟨_,rfl,Ext.refl _,Own.nil _ _ _ _⟩
 |some ad=>
  by_cases h0:0<l.length
  ·obtain⟨b,off,had,hb,hc⟩:=hr h0
   injection had with had
   subst had
   have RD:=aA (aEt hr h0 c)
   obtain⟨n,hnn⟩: ∃n,l.length=n:=⟨_,rfl⟩
   have HN:=aA hnn
   rw[hnn]at hl h0 RD⊢
   clear hr hc hnn
   go_enter Tryz.func197,Tryz.ntmps197
   go_wp2_with (at_builtin;refine cO u64E T_u64s rfl _ _ rfl w.heap.size _ [] l rfl (Own.lit0 u64E w _ _ _ rfl (Nat.le_refl _)) _ rfl (RD.out.ext ((Ext.refl _).alloc _)) (by rw[HN.out];simp;omega) (by rw[HN.out];simp;omega) (by simp) ?_;intro v9 w9 o9 t9 l9;have O9:=aA o9;have X9:=aA (((Ext.refl w).alloc (.cells #[] 38)).of_below (t9.to_below (B:=w.heap.size) (by simp) (fun k hk=>by cases hk;exact Nat.le_refl _)) (Nat.le_refl _));clear o9 t9 l9)
   rw[List.nil_append]at O9
   go_ret
   exact⟨_,rfl,X9.out,O9.out⟩
  have hl0:l=[]:=List.length_eq_zero_iff.1 (by omega)
  subst hl0
  clear hr hl h0
  simp only[List.length_nil]
  go_enter Tryz.func197,Tryz.ntmps197
  go_wp2_with (at_builtin;refine gH u64E T_u64s rfl _ _ rfl w.heap.size _ rfl (Own.lit0 u64E w _ _ _ rfl (Nat.le_refl _)) ad c rfl (by simp) ?_;intro v9 w9 o9 b9;have O9:=aA o9;have X9:=aA (((Ext.refl w).alloc (.cells #[] 38)).of_below b9 (Nat.le_refl _));clear o9 b9)
  go_ret
  exact⟨_,rfl,X9.out,O9.out⟩
def sB (w:World) (W H:Int) (l:List Int) (e:Ending) (w':World):Prop:= ∃a c,e= .returned (.agg #[.int .i64 W, .int .i64 H, .slice a l.length c])∧Ext w w'∧Own u16G w' w.heap.size 84 (.slice a l.length c) l
set_option maxRecDepth 100000 in
theorem wM {w:World} (W H:Int) {a:Option Addr} {l:List Int} (c:Nat) (hl:l.length≤1000000) (hr:Row16 w a l):
  Calls Tryz.prog 36 #[.agg #[.int .i64 W, .int .i64 H, .slice a l.length c]] w (sB w W H l):=by
 have HC:=aA (fun(w':World) (hx:Ext w w')=>yG (w:=w') c hl (hr.ext hx))
 obtain⟨n,hn⟩: ∃z,l.length=z:=⟨_,rfl⟩
 have HN:=aA hn
 rw[hn]at HC⊢
 clear hl hr hn
 go_enter Tryz.func36,Tryz.ntmps36
 go_wp2_with fail
 refine(HC.out _ z_x).mono ?_
 rintro e w1 ⟨v,rfl,hb1,ho1⟩
 obtain⟨sa,sc,rfl⟩:=ho1.slice
 rw[HN.out]at ho1⊢
 have B1:Hid (Blk w1 (w.heap.size) 26 #[.int .i64 W, .int .i64 H, .slice a n c]):=aA (by refine Blk.ext ?_ hb1;(repeat' (first|exact Blk.new_ (by simp)|refine Blk.drew ?_|refine Blk.over ?_)))
 have R1:Hid (Blk w1 (w.heap.size+1) 26 #[.int .i64 0, .int .i64 0, .slice none 0 0]):=aA (by refine Blk.ext ?_ hb1;(repeat' (first|exact Blk.new_ (by simp)|refine Blk.drew ?_|refine Blk.over ?_)))
 have HX1:=aA (show Ext w w1 from z_x)
 have O1:=aA ho1
 clear hb1 ho1
 have z1:=HX1.out.size
 have b0:=B1.out.at 0 rfl;have b1:=B1.out.at 1 rfl;have b2:=B1.out.at 2 rfl;have bz:=B1.out.lt
 have r0:=R1.out.at 0 rfl;have r1:=R1.out.at 1 rfl;have r2:=R1.out.at 2 rfl;have rz:=R1.out.lt
 have fb:=B1.out.frozen 2
 have f0:=R1.out.frozen 0
 have f1:=R1.out.frozen 1
 have f2:=R1.out.frozen 2
 have FIN:Hid (∀w',Touch (fun j=>j=w.heap.size∨j=w.heap.size+1) w1 w'→Ext w w'∧Own u16G w' w.heap.size 84 (.slice sa n sc) l):=aA (fun w' tt=>⟨((Touch.of_ext (S:=fun _=>False) HX1.out).after tt (fun j hj e=>by omega)).ext,(Own.touch O1.out tt (fun k hk e=>by have:=(aF O1.out hk).1;simp at this;omega)).lower (by simp;omega)⟩)
 go_wp2_with fail
 exact bodyPost_ret (v:= .agg #[.int .i64 W, .int .i64 H, .slice sa n sc]) (by simp[results,Tryz.results36,go_sem, *]) rfl ⟨sa,sc,by rw[HN.out],by rw[HN.out];exact FIN.out _ (by(with_reducible (repeat' (first|exact Touch.refl _ _|refine Touch.setCell ?_ (.inl ?_) _)));all_goals simp)⟩
def aM5 (w:World) (t:Tab) (e:Ending) (w':World):Prop:= ∃v1 v2,e= .returned (.agg #[v1,v2])∧Ext w w'∧Own cellE w' w.heap.size 28 v1 t.1∧RowsAt w' w.heap.size v2 t.2
set_option maxRecDepth 100000 in
set_option maxHeartbeats 600000 in
theorem aI5 {w:World} {ca ra:Option Addr} {cs:List aB} {ll:List (List Int)} (cc rc:Nat) (hc:RowC w ca cs) (hl:cs.length≤1000000) (hr:RowsU w ra ll) (hll:ll.length≤1000000) (hs: ∀r,r∈ll→r.length≤1000000):
  Calls Tryz.prog 179 #[.agg #[.slice ca cs.length cc, .slice ra ll.length rc]] w (aM5 w (cs,ll)):=by
 have HC:=aA (fun(w':World) (hx:Ext w w')=>lJ (w:=w') cc hl (hc.ext hx))
 have HR:=aA hr
 have HS:=aA hs
 obtain⟨n,hn⟩: ∃z,cs.length=z:=⟨_,rfl⟩
 obtain⟨m,hm⟩: ∃z,ll.length=z:=⟨_,rfl⟩
 have HN:=aA hn
 have HM:=aA hm
 rw[hn]at HC
 rw[hn,hm]
 rw[hm]at hll
 clear hc hl hr hs hn hm
 go_enter Tryz.func179,Tryz.ntmps179
 go_wp2_with fail
 refine(HC.out _ z_x).mono ?_
 rintro e w9 ⟨v,rfl,hb3,ho1⟩
 obtain⟨sa,sc,rfl⟩:=ho1.slice
 rw[HN.out]at ho1⊢
 have B0:Hid (Blk w9 (w.heap.size) 166 #[.slice ca n cc, .slice ra m rc]):=aA (by refine Blk.ext ?_ hb3;(repeat' (first|exact Blk.new_ (by simp)|refine Blk.drew ?_|refine Blk.over ?_)))
 have B1:Hid (Blk w9 (w.heap.size+1) 166 #[.slice none 0 0, .slice none 0 0]):=aA (by refine Blk.ext ?_ hb3;(repeat' (first|exact Blk.new_ (by simp)|refine Blk.drew ?_|refine Blk.over ?_)))
 have hx9:Ext w w9:=z_x
 have O9:=aA (ho1.lower (base':=w.heap.size) (by simp;omega))
 clear hb3 ho1
 have c0:=B0.out.at 0 rfl;have c1:=B0.out.at 1 rfl;have cz:=B0.out.lt
 go_wp2_with fail
 clear c0 c1 cz
 obtain⟨wa,hwa⟩: ∃z,z=w9.alloc (.cells #[.slice sa n sc, .slice none 0 0] 166):=⟨_,rfl⟩
 have BT:=aA (show Blk wa w9.heap.size 166 #[.slice sa n sc, .slice none 0 0] by rw[hwa];exact Blk.new_ rfl)
 have hxa:Ext w9 wa:=by rw[hwa];exact(Ext.refl _).alloc _
 have OA:=aA (O9.out.ext hxa)
 have HXA:=aA (hx9.trans hxa)
 have hz9:=hx9.size
 rw[←hwa]
 obtain⟨tb,htb⟩: ∃z,w9.heap.size=z:=⟨_,rfl⟩
 have zt:w.heap.size+1<tb:=by have:=B1.out.lt;omega
 rw[htb]at BT⊢
 have C0:=aA (Blk.ext B0.out hxa)
 have C1:=aA (Blk.ext B1.out hxa)
 clear B0 B1 hxa hx9 O9 hwa hz9 htb
 go_loopw [13] (fun iv wr=> ∃k:Nat,k≤m∧iv= .int .i64 k∧Touch (fun j=>j=tb) wa wr∧ ∃tv,Blk wr tb 166 #[.slice sa n sc,tv]∧RowsAt wr wa.heap.size tv (ll.take k)) (fun iv _=>m-(intOf iv).toNat)
 case atStart=>exact⟨0,Nat.zero_le _,rfl,Touch.refl _ _,_,BT.out,[],Own.nil _ _ _ _,rfl,fun i s r h=>by simp at h⟩
 obtain⟨k,hk,rfl,ht,tv,hb,hrr⟩:=hrel
 have T:=aA ht
 have BR:=aA hb
 have ht2:=ht
 have RR:=aA hrr
 have XR:=aA (HXA.out.of_below (Touch.to_below (B:=w.heap.size) ht HXA.out.size (fun k e=>by omega)) (Nat.le_refl _))
 have D1:=aA (C1.out.touch ht (by omega))
 clear ht hb hrr
 by_cases hlt:k<m
 ·obtain⟨b,off,rfl,hb,hcc⟩:=HR.out (by rw[HM.out];omega)
  have hkl:k<ll.length:=by rw[HM.out];exact hlt
  obtain⟨ka,kc,hk1,hk2⟩:=hcc k hkl
  have HQ:=aA (fun w' (hx:Ext wr w')=>yH (w:=w') kc (HS.out _ (List.getElem_mem hkl)) (hk2.ext (XR.out.trans hx)))
  have HT:=aA (show ll.take (k+1)=ll.take k++[ll[k]] from List.take_succ_eq_append_getElem hkl)
  have d0:=(XR.out.cell (p:=⟨b,off+k,none⟩) hb).trans hk1
  generalize ll[k]=row at *
  obtain⟨ss,s1,s2,s3⟩:=RR.out
  have S1:=aA s1
  have S2:=aA s2
  have S3:=aA s3
  have HLL:=aA (show ss.length=k by rw[s2,List.length_take,HM.out];omega)
  have hbw:b<wr.heap.size:=by have:=XR.out.size;omega
  have zb:b<w.heap.size:=hb
  have jk:(k:Int)<(m:Int):=by omega
  clear hcc hk1 hk2 hb s1 s2 s3
  go_wp2_with fail
  have S0:=aA (show CellsAt [(⟨tb,1,none⟩,tv)] wr from⟨BR.out.at 1 rfl,trivial⟩)
  have zr:=ht2.size
  have zx:tb<wa.heap.size:=BT.out.lt
  refine jW (S:=(CellsAt [(⟨tb,1,none⟩,tv)])) 7 [(0,true),(1,true),(2,true),(3,false),(4,false),(5,false),(6,true),(7,false)] (by kernel_rfl) (by kernel_rfl) (by kernel_rfl) (by decide) (fun _ _ d _ _ h=>by cases d<;>exact h) (CellsAt.ext ((Ext.refl _).drew) S0.out) (fun hK0=> ?_)
  iterate 3 (refine SeqR.fr2 ?_;try simp only[zz])
  (apply SeqR.step;(·(simp only[z_0,z_1,z_2];rfl));intro K hK;go_simp;refine(HQ.out _ z_x).mono ?_;rintro e w6 ⟨v6,rfl,hx6,ho6⟩;obtain⟨a6,c6,rfl⟩:=ho6.slice;have hx06:Ext wr w6:=z_x;have S6:=aA (CellsAt.ext hx06 S0.out);have O6:=aA (S1.out.ext hx06);have X6:=aA hx06;have R6:=aA (ho6.lower (base':=wa.heap.size) (by simp;omega));have B6:=aA (BR.out.ext hx06);have z6:=hx06.size;clear hx6 ho6 hx06;go_wp2_with fail;refine hK.out _ _ (fun _=>(S6.out)) (fun hK0=> ?_);replace hK0:=hK0 (by decide);clear hK K;try simp only[zz])
  (apply SeqR.step;(·(simp only[z_0,z_1,z_2];rfl));intro K hK;go_simp;refine hK.out _ _ (fun _=>(CellsAt.ext z_x S6.out)) (fun hK0=> ?_);replace hK0:=hK0 (by decide);clear hK K;try simp only[zz])
  (apply SeqR.step;(·(simp only[z_0,z_1,z_2];rfl));intro K hK;refine fX iG sV (by rfl) _ _ (by rfl) wa.heap.size w6 tv ss (by rfl) O6.out (a6,row.length,c6) _ _ (by rfl) _ (by rfl) (by rfl) (by rw[HLL.out];omega) (by rw[HLL.out];omega) (by omega) ?_;intro g9 c9 w9 o9 t9 l9;have hs3: ∀(x:Option Addr×Nat×Nat) (y:List Int),Own u64E w6 wa.heap.size 38 (.slice x.1 x.2.1 x.2.2) y→Own u64E w9 wa.heap.size 38 (.slice x.1 x.2.1 x.2.2) y:=(fun x y hy=>Own.touch hy t9 (fun k hk hu=>jT O6.out hy (by decide) hu hk));have R9:=aA (show RowsAt w9 wa.heap.size _ (ll.take (k+1)) by rw[HT.out];exact RowsAt.snoc (w:=w6) S2.out (fun i s r h1 h2=>(S3.out i s r h1 h2).ext X6.out) o9 (hs3 _ _ R6.out) hs3);have B9:=aA (B6.out.touch t9 (fun h=>Blk.ne_own B6.out O6.out (by decide) h));have S9:=aA (CellsAt.touch t9 (fun p hp h=>(by have hl:=(aF O6.out h).1;simp only[List.mem_cons,List.not_mem_nil,or_false]at hp;rcases hp with rfl;simp only at hl;omega)) S6.out);have T9:=aA ((T.out.trans (Touch.of_ext X6.out)).after t9 (fun k hk h=>(by have hl:=(aF O6.out h).1;omega)));have b1:=B9.out.at 1 rfl;have f1:=B9.out.frozen 1;clear o9 t9 l9 hs3;refine hK.out _ _ (fun _=>(S9.out)) (fun hK0=> ?_);replace hK0:=hK0 (by decide);clear hK K;try simp only[zz])
  iterate 1 (refine SeqR.fr2 ?_;try simp only[zz])
  (apply SeqR.step;(·(simp only[z_0,z_1,z_2];rfl));intro K hK;go_simp;refine hK.out _ _ (fun h=>absurd rfl h) (fun hK0=> ?_);clear hK K;try simp only[zz])
  refine SeqR.done ?_
  go_wp2_with fail
  go_roundw
  case rel=>
   have TB:Touch (fun j=>j=tb) w9 (w9.setCell ⟨tb,1,none⟩ (.slice (some ⟨g9,0,none⟩) (ss.length+1) c9)):=(Touch.refl (fun j=>j=tb) w9).setCell (p:=⟨tb,1,none⟩) (.inl rfl) _
   exact⟨k+1,hlt,by go_num,T9.out.trans TB,_,B9.out.set_ 1 _,R9.out.touch_blk B9.out (by decide) (by decide) TB⟩
  simp[intOf];omega
 obtain rfl:k=m:=by omega
 have HTK:Hid (ll.take k=ll):=aA (List.take_of_length_le (by rw[HM.out];exact Nat.le_refl _))
 rw[HTK.out]at RR
 have p0:=BR.out.at 0 rfl;have p1:=BR.out.at 1 rfl;have pz:=BR.out.lt
 obtain⟨ss,s1,s2,s3⟩:=RR.out
 obtain⟨ta,tc,rfl⟩:=s1.slice
 clear s1 s3 s2
 obtain⟨sn,hsn⟩: ∃z,ss.length=z:=⟨_,rfl⟩
 rw[hsn]at RR p1 BR
 clear hsn
 have E2:Hid (Blk wr (w.heap.size+1) 166 #[.slice none 0 0, .slice none 0 0]):=aA D1.out
 have q0:=E2.out.at 0 rfl;have q1:=E2.out.at 1 rfl;have qz:=E2.out.lt
 have f0:=E2.out.frozen 0
 have f1:=E2.out.frozen 1
 have TE:=aA (aAs wr (w.heap.size+1) (.slice sa n sc) (.slice ta sn tc))
 have BE:=aA ((E2.out.set_ 0 (.slice sa n sc)).set_ 1 (.slice ta sn tc))
 have OE:=aA (Own.touch (OA.out.touch ht2 (fun j hj e=>by subst e;exact Blk.ne_own BT.out OA.out (by decide) hj)) TE.out (fun j hj e=>by subst e;exact Blk.ne_own E2.out (OA.out.touch ht2 (fun j hj e=>by subst e;exact Blk.ne_own BT.out OA.out (by decide) hj)) (by decide) hj))
 have RE:=aA ((RR.out.touch_blk E2.out (by decide) (by decide) TE.out).lower (base':=w.heap.size) HXA.out.size)
 have XE:=aA (XR.out.of_below (Touch.to_below (B:=w.heap.size) TE.out XR.out.size (fun j e=>by omega)) (Nat.le_refl _))
 clear ht2
 go_wp2_with fail
 have e0:=BE.out.at 0 rfl
 have e1:=BE.out.at 1 rfl
 have ez:=BE.out.lt
 exact bodyPost_ret (v:= .agg #[.slice sa n sc, .slice ta sn tc]) (by simp[results,Tryz.results179,go_sem, *]) rfl ⟨_,_,rfl,XE.out,OE.out,RE.out⟩
end Go.Proofs.YtaellcgglldjaaaGreat

namespace Go.Proofs.YtaellcgglldjaaaGreat
open Go.RowKit
theorem Good.len {W H s:Int} {l:List Int} (g:Good W H s l):l.length≤65536:=by
 obtain⟨hm,hl⟩:=checkE_ok.1 g.ok
 obtain⟨a,b,c,d⟩:=mayB_true.1 hm
 have:=cN (a:=W) (b:=H) (A:=256) (B:=256) (by omega) b (by omega) d
 omega
theorem Good.cnt {W H s:Int} {l:List Int} (g:Good W H s l):1≤cnt W H s∧cnt W H s≤65536:=mI g.right
theorem pI {W H s id:Int} {l:List Int} (g:Good W H s l) (hi:0≤id∧id<cnt W H s):(dK W H s l id).1.length≤256∧(dK W H s l id).2.length≤256∧ ∀r∈(dK W H s l id).2,r.length≤256:=by
 have h:=tA g.right hi.1 hi.2 (aD W H s l)
 unfold dK
 rw[rD (g.box hi)]
 refine⟨h,by rw[List.length_map];exact h,fun r hr=> ?_⟩
 obtain⟨c,_,rfl⟩:=List.mem_map.1 hr
 unfold fS
 rw[List.length_map]
 exact h
theorem jU {w:World} {base n c g:Nat} {e:TypeId} {ts:List (Sl×Sl)} {j:Nat} {q:Sl×Sl} (h:Own tabE w base e (.slice (some ⟨g,0,none⟩) n c) ts) (hj:ts[j]? =some q):
  w.cell? ⟨g,j*2,none⟩=some (slV q.1)∧w.cell? ⟨g,j*2+1,none⟩=some (slV q.2):=by
 obtain⟨hjl,rfl⟩:=zJ hj
 obtain⟨a',c',en⟩:=h.slice
 have en':n=ts.length:=by injection en
 clear en
 subst en'
 have h':w.ownsRow base e 2 (.slice (some ⟨g,0,none⟩) ts.length c) ts.length (ts.flatMap tabE.cells):=h
 have f0:=cM tabE ts j _ (zG hjl) 0 (slV ts[j].1) rfl
 have f1:=cM tabE ts j _ (zG hjl) 1 (slV ts[j].2) rfl
 have e0:(ts.flatMap tabE.cells)[j*2]? =some (slV ts[j].1):=f0
 have e1:(ts.flatMap tabE.cells)[j*2+1]? =some (slV ts[j].2):=f1
 have hz:ts.length*tabE.size=ts.length*2:=rfl
 have c0:=World.ownsRow.cellAt (size:=2) h' (j*2) (by omega)
 have c1:=World.ownsRow.cellAt (size:=2) h' (j*2+1) (by omega)
 rw[e0]at c0
 rw[e1]at c1
 exact⟨c0,c1⟩
section
variable {w:World} {p:Spot} {R:Nat→Prop} {W H s:Int} {l:List Int} {G:Int→Int→Option (List (aB×aB))} {T:List Tab}
set_option maxRecDepth 100000 in
theorem aC0 (h:Stand w p R W H s l G T):Calls Tryz.prog 84 #[.pointer (some ⟨p.b,0,none⟩)] w (sB w W H l):=by
 have HO:=aA (fun(w':World) (hx:Ext w w')=>wM (w:=w') W H p.cc (by have:=h.good.len;omega) (h.row.ext hx))
 have B:=aA h.blk
 unfold cU at B
 obtain⟨n,hn⟩: ∃z,l.length=z:=⟨_,rfl⟩
 have HN:=aA hn
 rw[hn]at HO B
 clear h hn
 have b0:=B.out.at 0 rfl;have b1:=B.out.at 1 rfl;have b2:=B.out.at 2 rfl;have bz:=B.out.lt
 go_enter Tryz.func84,Tryz.ntmps84
 go_wp2_with fail
 refine(HO.out _ z_x).mono ?_
 rintro e w1 ⟨sa,sc,rfl,hb1,ho1⟩
 rw[HN.out]at ho1⊢
 have R1:Hid (Blk w1 (w.heap.size) 26 #[.int .i64 0, .int .i64 0, .slice none 0 0]):=aA (by refine Blk.ext ?_ hb1;(repeat' (first|exact Blk.new_ (by simp)|refine Blk.drew ?_|refine Blk.over ?_)))
 have HX1:=aA (show Ext w w1 from z_x)
 have O1:=aA ho1
 clear hb1 ho1
 have z1:=HX1.out.size
 have r0:=R1.out.at 0 rfl;have r1:=R1.out.at 1 rfl;have r2:=R1.out.at 2 rfl;have rz:=R1.out.lt
 have f0:=R1.out.frozen 0
 have f1:=R1.out.frozen 1
 have f2:=R1.out.frozen 2
 have FIN:Hid (∀w',Touch (fun j=>j=w.heap.size) w1 w'→Ext w w'∧Own u16G w' w.heap.size 84 (.slice sa n sc) l):=aA (fun w' tt=>⟨((Touch.of_ext (S:=fun _=>False) HX1.out).after tt (fun j hj e=>by omega)).ext,(Own.touch O1.out tt (fun k hk e=>by have:=(aF O1.out hk).1;simp at this;omega)).lower (by simp)⟩)
 go_wp2_with fail
 exact bodyPost_ret (v:= .agg #[.int .i64 W, .int .i64 H, .slice sa n sc]) (by simp[results,Tryz.results84,go_sem, *]) rfl ⟨sa,sc,by rw[HN.out],by rw[HN.out];exact FIN.out _ (by(with_reducible (repeat' (first|exact Touch.refl _ _|refine Touch.setCell ?_ (.inl ?_) _)));all_goals simp)⟩
set_option maxRecDepth 100000 in
theorem aC1 (h:Stand w p R W H s l G T):Calls Tryz.prog 18 #[.pointer (some ⟨p.b,0,none⟩)] w fun e w'=>e= .returned (.agg #[.int .i64 W, .int .i64 H, .int .i64 s])∧Ext w w':=by
 have B:=aA h.blk
 unfold cU at B
 have b3:=B.out.at 3 rfl
 have b4:=B.out.at 4 rfl
 have b5:=B.out.at 5 rfl
 have bz:=B.out.lt
 clear h
 go_enter Tryz.func18,Tryz.ntmps18
 go_wp2_with fail
 exact bodyPost_ret (v:= .agg #[.int .i64 W, .int .i64 H, .int .i64 s]) (by simp[results,Tryz.results18,go_sem, *]) rfl ⟨rfl,z_x⟩
end
def aKu (w:World) (t:Tab) (e:Ending) (w':World):Prop:= ∃v1 v2,e= .returned (.tuple #[.agg #[v1,v2], .int .i64 0])∧Ext w w'∧Own cellE w' w.heap.size 28 v1 t.1∧RowsAt w' w.heap.size v2 t.2
set_option maxRecDepth 100000 in
theorem aC2 {w:World} {p:Spot} {R:Nat→Prop} {W H s:Int} {l:List Int} (h:WorldAt w p R W H s l) (k:Nat) (hk:(k:Int)<cnt W H s):
  Calls Tryz.prog 153 #[.pointer (some ⟨p.b,0,none⟩), .int .i64 (k:Int)] w (aKu w (dK W H s l (k:Int))):=by
 obtain⟨G,T,h1,h2⟩:=h
 obtain⟨N,hN⟩: ∃z,T.length=z:=⟨_,rfl⟩
 have hkN:k<N:=by have:=h1.num;omega
 obtain⟨ts,t1,t2,t3⟩:=h1.tabs
 obtain⟨q,hq⟩: ∃q,ts[k]? =some q:=⟨_,zG (by omega)⟩
 have TA:=t3 k q _ hq (h2.tabs k (by omega))
 obtain⟨n1,n2,n3⟩:=pI h1.good (id:=(k:Int)) ⟨by omega,hk⟩
 have CA:=jU t1 hq
 obtain⟨⟨q1,q2,q3⟩,⟨q4,q5,q6⟩⟩:=q
 generalize dK W H s l (k:Int)=t at *
 obtain⟨cs,ll⟩:=t
 obtain⟨⟨tp,_⟩,tr⟩:=TA
 have ra:=tr.at0
 simp only[slV]at tp ra CA n1 n2 n3
 obtain⟨e1,rc⟩:=Reads.rowC tp.reads
 obtain⟨_,_,e2,_⟩:=iR ra
 have ru:=ra.u
 have e3:q5=ll.length:=by injection e2
 subst e1 e3
 have HT:=aA (fun(w':World) (hx:Ext w w')=>aI5 (w:=w') q3 q6 (rc.ext hx) (by omega) (ru.ext hx) (by omega) (fun r hr=>by have:=n3 r hr;omega))
 have B:=aA h1.blk
 unfold cU at B
 rw[hN]at B
 have b7:=B.out.at 7 rfl
 have bz:=B.out.lt
 obtain⟨c0,c1⟩:=CA
 have ztb:=World.block_lt_of_cell? w _ c0
 simp only at ztb
 have d1:decide ((k:Int)<0)=false:=by simp
 have d2:decide ((N:Int)≤(k:Int))=false:=by simp;omega
 have d3:decide (N≤k)=false:=by simp;omega
 have jk:(k:Int)<(N:Int):=by omega
 obtain⟨n,hn⟩: ∃z,cs.length=z:=⟨_,rfl⟩
 obtain⟨m,hm⟩: ∃z,ll.length=z:=⟨_,rfl⟩
 rw[hn,hm]at HT
 rw[hn]at c0
 rw[hm]at c1
 clear h1 h2 hN t1 t2 t3 hq tp tr ra rc ru n1 n2 n3 e2 hk hn hm
 go_enter Tryz.func153,Tryz.ntmps153
 go_wp2_with fail
 refine(HT.out _ z_x).mono ?_
 rintro e w1 ⟨v1,v2,rfl,hb1,ho1,hr1⟩
 obtain⟨sa,sc,rfl⟩:=ho1.slice
 obtain⟨ra,rc,rfl,_⟩:=iR hr1
 have R1:Hid (Blk w1 (w.heap.size) 166 #[.slice none 0 0, .slice none 0 0]):=aA (by refine Blk.ext ?_ hb1;(repeat' (first|exact Blk.new_ (by simp)|refine Blk.drew ?_|refine Blk.over ?_)))
 have HX1:=aA (show Ext w w1 from z_x)
 have O1:=aA ho1
 have S1:=aA hr1
 clear hb1 ho1 hr1
 have z1:=HX1.out.size
 have r0:=R1.out.at 0 rfl;have r1:=R1.out.at 1 rfl;have rz:=R1.out.lt
 have f0:=R1.out.frozen 0
 have f1:=R1.out.frozen 1
 have FIN:Hid (∀w',Touch (fun j=>j=w.heap.size) w1 w'→Ext w w'∧Own cellE w' w.heap.size 28 (.slice sa cs.length sc) cs∧RowsAt w' w.heap.size (.slice ra ll.length rc) ll):=aA (fun w' tt=>⟨((Touch.of_ext (S:=fun _=>False) HX1.out).after tt (fun j hj e=>by omega)).ext,(Own.touch O1.out tt (fun k hk e=>by have:=(aF O1.out hk).1;simp at this;omega)).lower (by simp),(S1.out.touch tt (fun j hj e=>by simp at hj;omega)).lower (by simp)⟩)
 go_wp2_with fail
 exact bodyPost_ret (v:= .tuple #[.agg #[.slice sa cs.length sc, .slice ra ll.length rc], .int .i64 0]) (by simp[results,Tryz.results153,go_sem, *]) rfl ⟨_,_,rfl,FIN.out _ (by(with_reducible (repeat' (first|exact Touch.refl _ _|refine Touch.setCell ?_ (.inl ?_) _)));all_goals simp)⟩
end Go.Proofs.YtaellcgglldjaaaGreat

