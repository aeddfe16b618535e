/- Part of a proof: InB. -/
import Derived.Test.YtaellcgglldjaaaGreatHierFindsQ11
import Derived.Test.YtaellcgglldjaaaGreatHierFindsQ10
import Derived.Test.YtaellcgglldjaaaGreatHierFindsQ13
import Derived.Lib.SliceRun
import Derived.Shelf.Abstract
import Derived.Test.YtaellcgglldjaaaGreatHierFindsQ03
import Derived.Test.YtaellcgglldjaaaGreatHierFindsQ01
import Derived.WalkMore
set_option linter.all false
set_option linter.unusedVariables false
set_option linter.unusedSimpArgs false
namespace Go.Proofs.YtaellcgglldjaaaGreat
open Go.RowKit
set_option maxRecDepth 100000 in
theorem aE1 (p q:aB) (w:World):Calls Tryz.prog 173 #[.agg #[.int .i64 p.1, .int .i64 p.2], .agg #[.int .i64 q.1, .int .i64 q.2]] w fun e w'=>e= .returned (.bool (nG p q))∧Ext w w':=by
 obtain⟨px,py⟩:=p
 obtain⟨qx,qy⟩:=q
 have e0:nG (px,py) (qx,qy)=(decide (py<qy)||(decide (qy=py)&&decide (px<qx))):=rfl
 rw[e0]
 clear e0
 simp only
 go_enter Tryz.func173,Tryz.ntmps173
 go_wp2
 all_goals go_ret
 all_goals exact⟨by simp[*]<;>omega,z_x⟩
theorem gH {α:Type} (E:Enc α) {P:Program} {t e:TypeId} {z:Value} {bytes:Nat} (T:cH P t e z E.size bytes) {ops:Array Oper} {rest:List Oper} {o:Oper} {a:Act} {Q:Exit→Act→World→Prop} {w:World}
  (hgd:o.guard=none) (s x:Operand) (ho:o.op= .call {callee:= .builtin .append,args:= #[s,x],argTypes:= #[t,t]})
  (base:Nat) (v:Value) (hs:a.eval s=v) (hown:Own E w base e v []) (ad:Addr) (c:Nat) (hx:a.eval x= .slice (some ad) 0 c) (hbase:base≤w.heap.size)
  (h: ∀v' w',Own E w' base e v' []→Below base w w'→wpList P ops Q rest (a.put o.dst v') w'):wpList P ops Q (o::rest) a w:=by
 obtain⟨i0,hi,hz0,hz1,hz2⟩:=info_parts T.info
 refine wpList_append_own _ hgd s x t ho base e i0 z E.size bytes T.under hi hz0 hz1 hz2 T.zs T.pos v 0 [] hs hown ad 0 c [] hx (by simp) (by intro j u hj;simp at hj) (by intro u hu;cases hu) (by unfold maxLen;omega) (by omega) hbase ?_
 intro v' w' hown' hg _
 exact h v' w' hown' ((Below.refl base w).grown hg hbase (fun k hk=>(World.ownsRow.lt hown k hk).1))
set_option maxRecDepth 100000 in
theorem lJ {w:World} {a:Option Addr} {l:List aB} (c:Nat) (hl:l.length≤1000000) (hr:RowC w a l):
  Calls Tryz.prog 142 #[.slice a l.length c] w fun e w'=> ∃v,e= .returned v∧Ext w w'∧Own cellE w' w.heap.size 28 v l:=by
 have q:=fun(w:World) (a:Option Addr) (n c n' c':Nat)=>Lib.run_eql_slice_nil (P:=Tryz.prog) w _ _ a n c n' c' Tryz.underlying37
 cases a with
 |none=>
  have hl0:l=[]:=by
   cases l with
   |nil=>rfl
   |cons x r=>obtain⟨b,off,h,_⟩:=hr (by simp);cases h
  subst hl0
  clear hr hl
  simp only[List.length_nil]
  go_enter Tryz.func142,Tryz.ntmps142
  go_wp2
  go_ret
  exact⟨_,rfl,Ext.refl _,Own.nil _ _ _ _⟩
 |some ad=>
  by_cases h0:0<l.length
  ·obtain⟨b,off,had,hb,hc⟩:=hr h0
   injection had with had
   subst had
   have RD:=aA (hr.reads h0 c)
   obtain⟨n,hnn⟩: ∃n,l.length=n:=⟨_,rfl⟩
   have HN:=aA hnn
   rw[hnn]at hl h0 RD⊢
   clear hr hc hnn
   go_enter Tryz.func142,Tryz.ntmps142
   go_wp2_with (at_builtin;refine jY cellE T_cells rfl _ _ rfl w.heap.size _ [] l rfl (Own.lit0 cellE w _ _ _ rfl (Nat.le_refl _)) b off c (by rw[HN.out];rfl) (Reads.cells (RD.out.ext ((Ext.refl _).alloc _))).2.2 (by rw[HN.out];simp;omega) (by rw[HN.out];simp;omega) (by simp) ?_;intro v9 w9 o9 b9;have O9:=aA o9;have X9:=aA (((Ext.refl w).alloc (.cells #[] 28)).of_below b9 (Nat.le_refl _));clear o9 b9)
   rw[List.nil_append]at O9
   go_ret
   exact⟨_,rfl,X9.out,O9.out⟩
  have hl0:l=[]:=List.length_eq_zero_iff.1 (by omega)
  subst hl0
  clear hr hl h0
  simp only[List.length_nil]
  go_enter Tryz.func142,Tryz.ntmps142
  go_wp2_with (at_builtin;refine gH cellE T_cells rfl _ _ rfl w.heap.size _ rfl (Own.lit0 cellE w _ _ _ rfl (Nat.le_refl _)) ad c rfl (by simp) ?_;intro v9 w9 o9 b9;have O9:=aA o9;have X9:=aA (((Ext.refl w).alloc (.cells #[] 28)).of_below b9 (Nat.le_refl _));clear o9 b9)
  go_ret
  exact⟨_,rfl,X9.out,O9.out⟩
set_option maxRecDepth 100000 in
theorem aGl {w:World} {W H:Int} {l:List Int} {bx byy bw bh:Int} (L:LandP W H l bx byy bw bh) {a:Option Addr} {c ab pb g vc base:Nat} {D:Nat→Int} (q:aB) (hq:bO bx byy bw bh q.1 q.2=true)
  (hA:w.cell? ⟨ab,0,none⟩=some (.slice (some ⟨g,0,none⟩) l.length vc)) (hB:Blk w pb 232 #[.int .i64 W, .int .i64 H, .slice a l.length c, .int .i64 bx, .int .i64 byy, .int .i64 bw, .int .i64 bh]) (hF:FarAt w base g vc D l.length):
  Calls Tryz.prog 176 (#[.agg #[.int .i64 q.1, .int .i64 q.2]]++ #[.pointer (some ⟨ab,0,none⟩), .pointer (some ⟨pb,0,none⟩)]) w fun e w'=>e= .returned (.int .u64 (D (aC W q)))∧Ext w w':=by
 obtain⟨x,y⟩:=q
 have hin:=L.in_ hq
 have wh:=L.wh
 have hn:=L.idx_lt hin
 have hi:=bT (W:=W) hin.1 wh.1 hin.2.2.1
 have m1:=cN (a:=y) (b:=W) (A:=256) (B:=256) (by omega) (by omega) (by omega) (by omega)
 have k1:IntKind.i64.wrap (y*W)=y*W:=IntWalk.i64_in _ (by omega)
 have k2:IntKind.i64.wrap (y*W+x)=((aC W (x,y):Nat):Int):=by rw[hi];exact IntWalk.i64_in _ (by omega)
 have hc:=(hF.cell hn).1
 have zg:=hF.lt.2
 have zb:=hB.lt
 have b0:w.cell? ⟨pb,0,none⟩=some (.int .i64 W):=hB.at 0 rfl
 have za:=World.block_lt_of_cell? w _ hA
 simp only at za
 obtain⟨j,hj⟩: ∃z,aC W (x,y)=z:=⟨_,rfl⟩
 rw[hj]at hn k2 hc⊢
 obtain⟨n,hnn⟩: ∃z,l.length=z:=⟨_,rfl⟩
 rw[hnn]at hn hA
 have jn:(j:Int)<(n:Int):=by omega
 clear hq hB hF L hin hi m1 hj hnn wh
 simp only[Array.append_eq_append,List.append_toArray]at *
 go_enter Tryz.func176,Tryz.ntmps176
 go_wp2
 go_ret
 exact⟨rfl,z_x⟩
set_option maxRecDepth 100000 in
theorem aD0 {w:World} {W H:Int} {a:Option Addr} {l:List Int} {bx byy bw bh:Int} (L:LandP W H l bx byy bw bh) (c:Nat) (p:aB) (hp:bO bx byy bw bh p.1 p.2=true) {ca:Option Addr} {cs:List aB} (cc:Nat) (hcs: ∀q,q∈cs→bO bx byy bw bh q.1 q.2=true) (hl:cs.length≤1000000) (hr:Row16 w a l) (hc:RowC w ca cs):
  Calls Tryz.prog 141 #[.agg #[.int .i64 W, .int .i64 H, .slice a l.length c, .int .i64 bx, .int .i64 byy, .int .i64 bw, .int .i64 bh], .agg #[.int .i64 p.1, .int .i64 p.2], .slice ca cs.length cc] w fun e w'=> ∃s:Option Addr×Nat×Nat,e= .returned (.tuple #[.slice s.1 s.2.1 s.2.2, .int .i64 0])∧Ext w w'∧Own u64E w' w.heap.size 38 (.slice s.1 s.2.1 s.2.2) (fS L cs p):=by
 obtain⟨x,y⟩:=p
 have he:eA W H l.length bx byy bw bh x y=0:=lookE_ok.2 ⟨L.may,L.len,L.fits,hp⟩
 obtain⟨G,hG⟩: ∃G,aE L=G:=⟨_,rfl⟩
 have H1:Hid (∀w',Ext w w'→Calls Tryz.prog 174 #[.agg #[.int .i64 W, .int .i64 H, .slice a l.length c], .agg #[.int .i64 bx, .int .i64 byy, .int .i64 bw, .int .i64 bh], .agg #[.int .i64 x, .int .i64 y]] w' fun e w''=>
   ∃v far,e= .returned (.tuple #[v, .int .i64 0])∧Ext w' w''∧Own u64E w'' w'.heap.size 38 v (bZ far l.length)∧IsFar G (aC W (x,y)) far∧fT G far):=aA (fun w' hx=>by have h:=aDs (w:=w') c he (hr.ext hx) L.u16;rw[←hG];exact h)
 have LL:=aA L
 have HC:=aA hc
 have HCS:=aA hcs
 have hn1:1≤l.length:=by have:=L.idx_lt (L.in_ hp);omega
 have HDI:Hid (∀(D:Nat→Int) (_:IsFar G (aC W (x,y)) D) (v:Nat),D v=cL L (x,y) v):=aA (by rw[←hG];exact fun D F v=>oU L F v)
 clear hG
 obtain⟨n,hnn⟩: ∃z,l.length=z:=⟨_,rfl⟩
 have HN:=aA hnn
 rw[hnn]at H1 hn1⊢
 obtain⟨m,hmm⟩: ∃z,cs.length=z:=⟨_,rfl⟩
 have HM:=aA hmm
 rw[hmm]at hl⊢
 clear hr hc hcs hp hnn hmm
 clear he
 simp only
 go_enter Tryz.func141,Tryz.ntmps141
 go_wp2_with fail
 refine(H1.out _ z_x).mono ?_
 rintro e w1 ⟨v,far,rfl,hb1,hv,F,_⟩
 have BP1:Hid (Blk w1 (w.heap.size) 232 #[.int .i64 W, .int .i64 H, .slice a n c, .int .i64 bx, .int .i64 byy, .int .i64 bw, .int .i64 bh]):=aA (by refine Blk.ext ?_ hb1;(repeat' (first|exact Blk.new_ (by simp)|refine Blk.drew ?_|refine Blk.over ?_)))
 have hx1:Ext w w1:=z_x
 have HX1:=aA hx1
 have FD:=aA (HDI.out far F)
 obtain⟨g,vc,hvg⟩:=aLm hv (by rw[cJ];omega)
 rw[cJ]at hvg
 subst hvg
 have FA:=aA (show FarAt w1 _ g vc far n from hv)
 clear hv F hb1 hx1
 go_wp2_with fail
 obtain⟨w2,hw2⟩: ∃w2,w2=w1.alloc (.cells #[.slice (some ⟨g,0,none⟩) n vc] 78):=⟨_,rfl⟩
 have hx2:Ext w1 w2:=by rw[hw2];exact(Ext.refl _).alloc _
 have AB:=aA (show Blk w2 w1.heap.size 78 #[.slice (some ⟨g,0,none⟩) n vc] by rw[hw2];exact Blk.new_ rfl)
 have BP2:=aA (Blk.ext BP1.out hx2)
 have FA2:=aA (FA.out.ext hx2)
 have HX2:=aA (HX1.out.trans hx2)
 have HC2:=aA (HC.out.ext HX2.out)
 rw[←hw2]
 clear hw2 hx2 BP1 FA HX1 HC H1
 have HE:=aBd (w:=w2) (f:=176) (caps:= #[.pointer (some ⟨w1.heap.size,0,none⟩), .pointer (some ⟨w.heap.size,0,none⟩)]) (g:=fun q=>cL LL.out (x,y) (aC W q)) cc (by rw[HM.out];exact hl) HC2.out
  (fun w' hx q hq=>by
   have h:=aGl (w:=w') LL.out (a:=a) (c:=c) (ab:=w1.heap.size) (pb:=w.heap.size) (g:=g) (vc:=vc) (D:=far) q (HCS.out q hq) (by rw[HN.out];exact(Blk.ext AB.out hx).at 0 rfl) (by rw[HN.out];exact Blk.ext BP2.out hx) (by rw[HN.out];exact FA2.out.ext hx)
   rw[FD.out]at h
   exact h)
  (enters_of Tryz.func176 (by kernel_rfl) rfl)
 rw[HM.out]at HE
 refine HE.mono ?_
 rintro e w3 ⟨v3,rfl,hx3,ho3⟩
 obtain⟨sa,sc,hs3⟩:=ho3.slice
 rw[List.length_map]at hs3
 subst hs3
 have O3:=aA ho3
 have X3:=aA hx3
 have z2:=HX2.out.size
 clear ho3 hx3 HE
 go_wp2_with fail
 go_ret2
 exact⟨(sa,_,sc),rfl,HX2.out.trans X3.out,O3.out.lower (by omega)⟩
set_option maxRecDepth 100000 in
theorem aBo {w:World} (W H:Int) (a:Option Addr) (n c:Nat) (PW PH s id:Int) (ca:Option Addr) (cn cc:Nat) (he:aX W H n≠0):
  Calls Tryz.prog 138 #[.agg #[.int .i64 W, .int .i64 H, .slice a n c], .agg #[.int .i64 PW, .int .i64 PH, .int .i64 s], .int .i64 id, .slice ca cn cc] w fun e w'=>e= .returned (.tuple #[.agg #[.int .i64 0, .int .i64 0, .slice none 0 0, .int .i64 0, .int .i64 0, .int .i64 0, .int .i64 0], .int .i64 (aX W H n)])∧Ext w w':=by
 have H1:=aA (fun w'=>cX W H a n c w')
 generalize aX W H n=er at *
 have hb:(er !=0)=true:=by simpa using he
 clear he
 go_enter Tryz.func138,Tryz.ntmps138
 go_wp2_with fail
 apply wp_scope_straight
 go_wp2_with fail
 refine(H1.out _).mono ?_
 rintro e w1 ⟨rfl,hb1⟩
 obtain⟨hc1,hf1⟩:=hb1.cells;have hz1:=hb1.size;(try simp only[zS]at hz1);have z1_0:w.heap.size<w1.heap.size:=(by omega);have z1_1:w.heap.size+1<w1.heap.size:=(by omega);have z1_2:w.heap.size+2<w1.heap.size:=(by omega)
 go_wp2_with fail
 rw[Exit.noGoto_ret]
 exact bodyPost_ret (v:= .tuple #[.agg #[.int .i64 0, .int .i64 0, .slice none 0 0, .int .i64 0, .int .i64 0, .int .i64 0, .int .i64 0], .int .i64 er]) (by simp[results,Tryz.results138,go_sem, *]) rfl ⟨rfl,z_x⟩
set_option maxRecDepth 100000 in
theorem aE0 {w:World} (W H:Int) (a:Option Addr) (n c:Nat) (PW PH s id:Int) (ca:Option Addr) (cn cc:Nat) (he:aX W H n=0) (hs: ¬(PW=W∧PH=H)):
  Calls Tryz.prog 138 #[.agg #[.int .i64 W, .int .i64 H, .slice a n c], .agg #[.int .i64 PW, .int .i64 PH, .int .i64 s], .int .i64 id, .slice ca cn cc] w fun e w'=>e= .returned (.tuple #[.agg #[.int .i64 0, .int .i64 0, .slice none 0 0, .int .i64 0, .int .i64 0, .int .i64 0, .int .i64 0], .int .i64 1])∧Ext w w':=by
 have H1:=aA (fun w'=>cX W H a n c w')
 rw[he]at H1
 have hq:=fun w=>qW PW PH W H w
 rw[show(PW==W&&PH==H)=false by rw[Bool.eq_false_iff];intro h;simp only[Bool.and_eq_true,beq_iff_eq]at h;exact hs h]at hq
 clear he hs
 go_enter Tryz.func138,Tryz.ntmps138
 go_wp2_with fail
 apply wp_scope_straight
 go_wp2_with fail
 refine(H1.out _).mono ?_
 rintro e w1 ⟨rfl,hb1⟩
 obtain⟨hc1,hf1⟩:=hb1.cells;have hz1:=hb1.size;(try simp only[zS]at hz1);have z1_0:w.heap.size<w1.heap.size:=(by omega);have z1_1:w.heap.size+1<w1.heap.size:=(by omega);have z1_2:w.heap.size+2<w1.heap.size:=(by omega)
 go_wp2_with fail
 rw[Exit.noGoto_ret]
 exact bodyPost_ret (v:= .tuple #[.agg #[.int .i64 0, .int .i64 0, .slice none 0 0, .int .i64 0, .int .i64 0, .int .i64 0, .int .i64 0], .int .i64 1]) (by simp[results,Tryz.results138,go_sem, *]) rfl ⟨rfl,z_x⟩
set_option maxRecDepth 100000 in
theorem aGm {w:World} (W H:Int) (a:Option Addr) (n c:Nat) (s id:Int) (ca:Option Addr) (cn cc:Nat) (he:aX W H n=0) (hs:jN W H s [id]≠0):
  Calls Tryz.prog 138 #[.agg #[.int .i64 W, .int .i64 H, .slice a n c], .agg #[.int .i64 W, .int .i64 H, .int .i64 s], .int .i64 id, .slice ca cn cc] w fun e w'=>e= .returned (.tuple #[.agg #[.int .i64 0, .int .i64 0, .slice none 0 0, .int .i64 0, .int .i64 0, .int .i64 0, .int .i64 0], .int .i64 (jN W H s [id])])∧Ext w w':=by
 have H1:=aA (fun w'=>cX W H a n c w')
 rw[he]at H1
 have hq:=fun w=>qW W H W H w
 rw[show(W==W&&H==H)=true by simp]at hq
 have H2:=aA (fun(w':World)=>aM0 W H s id w' (by simpa using hs))
 generalize jN W H s [id]=er at *
 have hb:(er !=0)=true:=by simpa using hs
 clear he hs
 go_enter Tryz.func138,Tryz.ntmps138
 go_wp2_with fail
 apply wp_scope_straight
 go_wp2_with fail
 refine(H1.out _).mono ?_
 rintro e w1 ⟨rfl,hb1⟩
 obtain⟨hc1,hf1⟩:=hb1.cells;have hz1:=hb1.size;(try simp only[zS]at hz1);have z1_0:w.heap.size<w1.heap.size:=(by omega);have z1_1:w.heap.size+1<w1.heap.size:=(by omega);have z1_2:w.heap.size+2<w1.heap.size:=(by omega)
 go_wp2_with fail
 refine(H2.out _).mono ?_
 rintro e w2 ⟨rfl,hb2⟩
 obtain⟨hc2,hf2⟩:=hb2.cells;have hz2:=hb2.size;(try simp only[zS]at hz2);have z2_0:w.heap.size<w2.heap.size:=(by omega);have z2_1:w.heap.size+1<w2.heap.size:=(by omega);have z2_2:w.heap.size+2<w2.heap.size:=(by omega)
 go_wp2_with fail
 rw[Exit.noGoto_ret]
 exact bodyPost_ret (v:= .tuple #[.agg #[.int .i64 0, .int .i64 0, .slice none 0 0, .int .i64 0, .int .i64 0, .int .i64 0, .int .i64 0], .int .i64 er]) (by simp[results,Tryz.results138,go_sem, *]) rfl ⟨rfl,z_x⟩
set_option maxRecDepth 100000 in
set_option maxHeartbeats 1000000 in
theorem aBn {w:World} (W H:Int) (a:Option Addr) (n c:Nat) (s id:Int) (ca:Option Addr) (cs:List aB) (cc:Nat) (he:aX W H n=0) (hr:aK W H s=true) (h0:0≤id) (hid:id<cnt W H s) (hc:RowC w ca cs) (hl:cs.length≤1000000) (hi: ∀p∈cs,InI p.1∧InI p.2):
  Calls Tryz.prog 138 #[.agg #[.int .i64 W, .int .i64 H, .slice a n c], .agg #[.int .i64 W, .int .i64 H, .int .i64 s], .int .i64 id, .slice ca cs.length cc] w fun e w'=>e= .returned (.tuple #[.agg #[.int .i64 W, .int .i64 H, .slice a n c, .int .i64 (aR W s id), .int .i64 (aO W s id), .int .i64 (aZ W s id), .int .i64 (bA W H s id)], .int .i64 (cI W H s id cs cs.length)])∧Ext w w':=by
 have H1:=aA (fun w'=>cX W H a n c w')
 rw[he]at H1
 have hq:=fun w=>qW W H W H w
 rw[show(W==W&&H==H)=true by simp]at hq
 have H2:=aA (fun(w':World)=>uJ W H s id w' hr h0 hid)
 have HC:=aA hc
 have HIN:=aA hi
 have HR:=aA hr
 have eW:aZ W s id=min s (W-aR W s id):=rfl
 have eH:bA W H s id=min s (H-aO W s id):=rfl
 rw[←eW,←eH]at H2
 obtain⟨m,hm⟩: ∃z,cs.length=z:=⟨_,rfl⟩
 have HM:=aA hm
 rw[hm]at hl⊢
 clear he hr h0 hid hc hi hm eW eH
 generalize aR W s id=X at *
 generalize aO W s id=Y at *
 generalize aZ W s id=BW at *
 generalize bA W H s id=BH at *
 go_enter Tryz.func138,Tryz.ntmps138
 go_wp2_with fail
 apply wp_scope_straight
 go_wp2_with fail
 refine(H1.out _).mono ?_
 rintro e w1 ⟨rfl,hb1⟩
 have BF1:Hid (Blk w1 (w.heap.size) 26 #[.int .i64 W, .int .i64 H, .slice a n c]):=aA (by refine Blk.ext ?_ hb1;(repeat' (first|exact Blk.new_ (by simp)|refine Blk.drew ?_|refine Blk.over ?_)))
 have BP1:Hid (Blk w1 (w.heap.size+1) 53 #[.int .i64 W, .int .i64 H, .int .i64 s]):=aA (by refine Blk.ext ?_ hb1;(repeat' (first|exact Blk.new_ (by simp)|refine Blk.drew ?_|refine Blk.over ?_)))
 have BR1:Hid (Blk w1 (w.heap.size+2) 232 #[.int .i64 0, .int .i64 0, .slice none 0 0, .int .i64 0, .int .i64 0, .int .i64 0, .int .i64 0]):=aA (by refine Blk.ext ?_ hb1;(repeat' (first|exact Blk.new_ (by simp)|refine Blk.drew ?_|refine Blk.over ?_)))
 have HX1:=aA (show Ext w w1 from z_x)
 clear hb1
 have f0:=BF1.out.at 0 rfl;have f1:=BF1.out.at 1 rfl;have f2:=BF1.out.at 2 rfl;have fz:=BF1.out.lt
 have p0:=BP1.out.at 0 rfl;have p1:=BP1.out.at 1 rfl;have p2:=BP1.out.at 2 rfl;have pz:=BP1.out.lt
 go_wp2_with fail
 refine(H2.out _).mono ?_
 rintro e w2 ⟨rfl,hb2⟩
 have BF2:=aA (Blk.ext BF1.out hb2)
 have BP2:=aA (Blk.ext BP1.out hb2)
 have BR2:=aA (Blk.ext BR1.out hb2)
 have HX2:=aA (HX1.out.trans hb2)
 have hz2:w.heap.size+3≤w2.heap.size:=by have:=BR2.out.lt;omega
 clear hb2 f0 f1 f2 fz p0 p1 p2 pz BF1 BP1 BR1 HX1
 go_wp2_with fail
 obtain⟨w3,hw3⟩: ∃w3,w3=w2.alloc (.cells #[.int .i64 X, .int .i64 Y, .int .i64 BW, .int .i64 BH] 71):=⟨_,rfl⟩
 have hx3:Ext w2 w3:=by rw[hw3];exact(Ext.refl _).alloc _
 have BB3:=aA (show Blk w3 w2.heap.size 71 #[.int .i64 X, .int .i64 Y, .int .i64 BW, .int .i64 BH] by rw[hw3];exact Blk.new_ rfl)
 have BF3:=aA (Blk.ext BF2.out hx3)
 have BP3:=aA (Blk.ext BP2.out hx3)
 have BR3:=aA (Blk.ext BR2.out hx3)
 have HX3:=aA (HX2.out.trans hx3)
 have hz3:w2.heap.size+1≤w3.heap.size:=by have:=BB3.out.lt;omega
 rw[←hw3]
 obtain⟨xb,hxb⟩: ∃z,w2.heap.size=z:=⟨_,rfl⟩
 rw[hxb]at BB3 hz3 hz2⊢
 clear hw3 hx3 hxb BF2 BP2 BR2 HX2
 go_step3
 go_wp2_with fail
 go_loopw [12,41] (fun ev iv wr=> ∃k:Nat,k≤m∧iv= .int .i64 k∧ev= .int .i64 0∧cI W H s id cs k=0∧Ext w3 wr) (fun _ iv _=>m-(intOf iv).toNat)
 case atStart=>exact⟨0,Nat.zero_le _,rfl,rfl,rfl,Ext.refl _⟩
 obtain⟨k,hk,rfl,rfl,hce,hx⟩:=hrel
 have HCE:=aA hce
 have XR:=aA hx
 have BFr:=aA (Blk.ext BF3.out hx)
 have BPr:=aA (Blk.ext BP3.out hx)
 have BRr:=aA (Blk.ext BR3.out hx)
 have BBr:=aA (Blk.ext BB3.out hx)
 have hzr:=hx.size
 clear hce hx
 by_cases hlt:k<m
 ·have hkl:k<cs.length:=by rw[HM.out];exact hlt
  obtain⟨b,off,rfl,hb,hcc⟩:=HC.out (by omega)
  have hxw:=HX3.out.trans XR.out
  have hq0:=hcc k hkl
  have hgd:cs.getD k (0,0)=cs[k]:=by simp[List.getD_eq_getElem?_getD,hkl]
  have hini:=HIN.out cs[k] (List.getElem_mem hkl)
  obtain⟨⟨qx,qy⟩,hqe⟩: ∃q,cs[k]=q:=⟨_,rfl⟩
  rw[hqe]at hq0 hgd hini
  have HGD:=aA hgd
  have d0:=(hxw.cell (p:=⟨b,off+k*2,none⟩) hb).trans hq0.1
  have d1:=(hxw.cell (p:=⟨b,off+k*2+1,none⟩) hb).trans hq0.2
  have zb:b<wr.heap.size:=Nat.lt_of_lt_of_le hb hxw.size
  have HCC:=aA (fun k' (h:k'<cs.length)=>hcc k' h)
  have HB:=aA hb
  have HXW:=aA hxw
  have jk:(k:Int)<(m:Int):=by omega
  clear hkl hcc hq0 hgd hqe hxw hb
  have p0:=BPr.out.at 0 rfl;have p1:=BPr.out.at 1 rfl;have p2:=BPr.out.at 2 rfl;have pz:=BPr.out.lt
  have END:Hid (∀e:Int,cP W H s id cs k=e→e≠0→cI W H s id cs m=e):=aA (fun e h1 h2=>by rw[aFs HCE.out (by rw[h1];exact h2) hlt,h1])
  cases hin:inB W H qx qy
  ·have HE:=aA (END.out 10 (by unfold cP;rw[HGD.out];unfold fZ;rw[hin];rfl) (by decide))
   have HOF:=aA (fun w'=>sJ W H s qx qy w' HR.out hin)
   clear hin END
   go_wp2_with fail
   refine(HOF.out _).mono ?_
   rintro e w5 ⟨rfl,hb5⟩
   have hx5:Ext wr w5:=z_x
   have BF5:=aA (Blk.ext BFr.out hx5)
   have BR5:=aA (Blk.ext BRr.out hx5)
   have BB5:=aA (Blk.ext BBr.out hx5)
   have hxx:=HXW.out.trans hx5
   clear hb5 hx5 p0 p1 p2 pz d0 d1
   have f0:=BF5.out.at 0 rfl;have f1:=BF5.out.at 1 rfl;have f2:=BF5.out.at 2 rfl;have fz:=BF5.out.lt
   have g0:=BB5.out.at 0 rfl;have g1:=BB5.out.at 1 rfl;have g2:=BB5.out.at 2 rfl;have g3:=BB5.out.at 3 rfl;have gz:=BB5.out.lt
   have r0:=BR5.out.at 0 rfl;have r1:=BR5.out.at 1 rfl;have r2:=BR5.out.at 2 rfl;have r3:=BR5.out.at 3 rfl;have r4:=BR5.out.at 4 rfl;have r5:=BR5.out.at 5 rfl;have r6:=BR5.out.at 6 rfl;have rz:=BR5.out.lt
   have t0:=BR5.out.frozen 0
   have t1:=BR5.out.frozen 1
   have t2:=BR5.out.frozen 2
   have t3:=BR5.out.frozen 3
   have t4:=BR5.out.frozen 4
   have t5:=BR5.out.frozen 5
   have t6:=BR5.out.frozen 6
   go_wp2_with fail
   rw[Exit.noGoto_ret]
   exact bodyPost_ret (v:= .tuple #[.agg #[.int .i64 W, .int .i64 H, .slice a n c, .int .i64 X, .int .i64 Y, .int .i64 BW, .int .i64 BH], .int .i64 10]) (by simp[results,Tryz.results138,go_sem, *]) rfl ⟨by rw[HE.out],z_x⟩
  have HOF:=aA (fun w'=>lC W H s qx qy w' HR.out hin)
  have hid1:fZ W H s id (qx,qy)=decide (ofN W s qx qy=id):=by unfold fZ;rw[hin];rfl
  obtain⟨om,hom⟩: ∃z,ofN W s qx qy=z:=⟨_,rfl⟩
  rw[hom]at HOF hid1
  have HID:=aA hid1
  clear hin hom hid1
  by_cases hoi:om=id
  ·rw[hoi]at HOF HID
   have hne:(id !=id)=false:=by simp
   have HIT:Hid (fZ W H s id (cs.getD k (0,0))=true):=aA (by rw[HGD.out,HID.out];simp)
   clear hoi
   go_wp2_with fail
   refine(HOF.out _).mono ?_
   rintro e w5 ⟨rfl,hb5⟩
   have MC:Hid (Blk w5 (wr.heap.size) 28 #[.int .i64 qx, .int .i64 qy]):=aA (by refine Blk.ext ?_ hb5;(repeat' (first|exact Blk.new_ (by simp)|refine Blk.drew ?_|refine Blk.over ?_)))
   have hx5:Ext wr w5:=z_x
   have HX5:=aA hx5
   clear hb5 p0 p1 p2 pz d0 d1
   obtain⟨mb,hmb⟩: ∃z,wr.heap.size=z:=⟨_,rfl⟩
   rw[hmb]at MC⊢
   clear hmb
   have c0:=MC.out.at 0 rfl;have c1:=MC.out.at 1 rfl;have cz:=MC.out.lt
   by_cases hk0:k=0
   ·subst hk0
    have HN:=aA (nO HCE.out (by unfold cP;rw[if_neg (by rw[HIT.out];simp),if_neg (fun h=>absurd h.1 (Nat.lt_irrefl 0))]))
    clear END hx5
    go_wp2_with fail
    refine aS w5 [(0,true),(1,true),(2,true),(3,true),(4,true),(5,true),(6,true),(7,true),(8,true),(9,true),(10,true),(11,true),(12,true)] (fun hK0=> ?_)
    iterate 13 (refine SeqH.fr1 ?_;try simp only[zz])
    refine SeqH.done ?_
    have hx6:=hK0.2
    clear hK0
    go_wp2_with fail
    go_roundw
    case rel=>exact⟨1,by omega,by go_num,rfl,HN.out,(XR.out.trans HX5.out).trans hx6⟩
    simp[intOf];omega
   obtain⟨k',rfl⟩: ∃k',k=k'+1:=⟨k-1,by omega⟩
   have hkl:k'<cs.length:=by rw[HM.out];omega
   have hq1:=HCC.out k' hkl
   have hgd1:cs.getD k' (0,0)=cs[k']:=by simp[List.getD_eq_getElem?_getD,hkl]
   obtain⟨⟨px,py⟩,hpe⟩: ∃q,cs[k']=q:=⟨_,rfl⟩
   rw[hpe]at hq1 hgd1
   have hxw5:=HXW.out.trans hx5
   have e0:=(hxw5.cell (p:=⟨b,off+k'*2,none⟩) HB.out).trans hq1.1
   have e1:=(hxw5.cell (p:=⟨b,off+k'*2+1,none⟩) HB.out).trans hq1.2
   have zb5:b<w5.heap.size:=Nat.lt_of_lt_of_le HB.out hxw5.size
   have HRI:=aA (fun w'=>aE1 (px,py) (qx,qy) w')
   have HBD:Hid (cP W H s id cs (k'+1)=if nG (px,py) (qx,qy)=false then 11 else 0):=aA (by
    unfold cP
    rw[if_neg (by rw[HIT.out];simp),HGD.out,Nat.add_sub_cancel,hgd1]
    by_cases h:nG (px,py) (qx,qy)=false
    ·rw[if_pos ⟨Nat.succ_pos _,h⟩,if_pos h]
    rw[if_neg (fun k=>h k.2),if_neg h])
   have jk':(k':Int)<(m:Int):=by omega
   have s1:IntKind.i64.wrap ((k':Int)+1-1)=(k':Int):=by rw[Int.add_sub_cancel];exact IntWalk.i64_in _ (by omega)
   have s3:IntKind.i64.wrap (k':Int)=(k':Int):=IntWalk.i64_in _ (by omega)
   have s2:decide ((0:Int)<(k':Int)+1)=true:=by simp<;>omega
   clear hq1 hgd1 hpe hkl hxw5 hk0
   simp only at HRI
   cases hri:nG (px,py) (qx,qy)
   ·rw[hri]at HRI HBD
    have HE:=aA (END.out 11 (by rw[HBD.out];rfl) (by decide))
    clear END HBD hri
    go_wp2_with fail
    refine aS w5 [(0,true),(1,true),(2,true),(3,true),(4,true),(5,true),(6,true),(7,true),(8,true),(9,false),(10,true),(11,true),(12,true)] (fun hK0=> ?_)
    iterate 9 (refine SeqH.fr1 ?_;try simp only[zz])
    (refine aP ?_;intro K hK;go_simp;refine(HRI.out _).mono ?_;rintro e w8 ⟨rfl,hb8⟩;go_wp2_with fail;refine hK.out _ _ (aI z_x) (fun hK0=> ?_);clear hK K;try simp only[zz])
    iterate 3 (refine SeqH.fr1 ?_;try simp only[zz])
    refine SeqH.done ?_
    have hx8:=hx5.trans hK0.2
    clear hK0 hb8 hx5 e0 e1 c0 c1 cz zb5
    have hx5:=hx8
    clear hx8
    have BFn:=aA (Blk.ext BFr.out hx5)
    have BRn:=aA (Blk.ext BRr.out hx5)
    have BBn:=aA (Blk.ext BBr.out hx5)
    have hxx:=HXW.out.trans hx5
    have f0:=BFn.out.at 0 rfl;have f1:=BFn.out.at 1 rfl;have f2:=BFn.out.at 2 rfl;have fz:=BFn.out.lt
    have g0:=BBn.out.at 0 rfl;have g1:=BBn.out.at 1 rfl;have g2:=BBn.out.at 2 rfl;have g3:=BBn.out.at 3 rfl;have gz:=BBn.out.lt
    have r0:=BRn.out.at 0 rfl;have r1:=BRn.out.at 1 rfl;have r2:=BRn.out.at 2 rfl;have r3:=BRn.out.at 3 rfl;have r4:=BRn.out.at 4 rfl;have r5:=BRn.out.at 5 rfl;have r6:=BRn.out.at 6 rfl;have rz:=BRn.out.lt
    have t0:=BRn.out.frozen 0
    have t1:=BRn.out.frozen 1
    have t2:=BRn.out.frozen 2
    have t3:=BRn.out.frozen 3
    have t4:=BRn.out.frozen 4
    have t5:=BRn.out.frozen 5
    have t6:=BRn.out.frozen 6
    go_wp2_with fail
    rw[Exit.noGoto_ret]
    exact bodyPost_ret (v:= .tuple #[.agg #[.int .i64 W, .int .i64 H, .slice a n c, .int .i64 X, .int .i64 Y, .int .i64 BW, .int .i64 BH], .int .i64 11]) (by simp[results,Tryz.results138,go_sem, *]) rfl ⟨by rw[HE.out],z_x⟩
   rw[hri]at HRI HBD
   have HN:=aA (nO HCE.out (by rw[HBD.out];rfl))
   clear END HBD hri hx5
   go_wp2_with fail
   refine aS w5 [(0,true),(1,true),(2,true),(3,true),(4,true),(5,true),(6,true),(7,true),(8,true),(9,false),(10,true),(11,true),(12,true)] (fun hK0=> ?_)
   iterate 9 (refine SeqH.fr1 ?_;try simp only[zz])
   (refine aP ?_;intro K hK;go_simp;refine(HRI.out _).mono ?_;rintro e w8 ⟨rfl,hb8⟩;go_wp2_with fail;refine hK.out _ _ (aI z_x) (fun hK0=> ?_);clear hK K;try simp only[zz])
   iterate 3 (refine SeqH.fr1 ?_;try simp only[zz])
   refine SeqH.done ?_
   have hx6:=hK0.2
   clear hK0 hb8
   go_wp2_with fail
   go_roundw
   case rel=>exact⟨k'+1+1,by omega,by go_num,rfl,HN.out,(XR.out.trans HX5.out).trans hx6⟩
   simp[intOf];omega
  have hne:(om !=id)=true:=by simpa using hoi
  have HE:=aA (END.out 10 (by unfold cP;rw[HGD.out,HID.out];simp[hoi]) (by decide))
  clear END hoi
  go_wp2_with fail
  refine(HOF.out _).mono ?_
  rintro e w5 ⟨rfl,hb5⟩
  have hx5:Ext wr w5:=z_x
  clear hb5
  have BFn:=aA (Blk.ext BFr.out hx5)
  have BRn:=aA (Blk.ext BRr.out hx5)
  have BBn:=aA (Blk.ext BBr.out hx5)
  have hxx:=HXW.out.trans hx5
  clear p0 p1 p2 pz d0 d1
  have f0:=BFn.out.at 0 rfl;have f1:=BFn.out.at 1 rfl;have f2:=BFn.out.at 2 rfl;have fz:=BFn.out.lt
  have g0:=BBn.out.at 0 rfl;have g1:=BBn.out.at 1 rfl;have g2:=BBn.out.at 2 rfl;have g3:=BBn.out.at 3 rfl;have gz:=BBn.out.lt
  have r0:=BRn.out.at 0 rfl;have r1:=BRn.out.at 1 rfl;have r2:=BRn.out.at 2 rfl;have r3:=BRn.out.at 3 rfl;have r4:=BRn.out.at 4 rfl;have r5:=BRn.out.at 5 rfl;have r6:=BRn.out.at 6 rfl;have rz:=BRn.out.lt
  have t0:=BRn.out.frozen 0
  have t1:=BRn.out.frozen 1
  have t2:=BRn.out.frozen 2
  have t3:=BRn.out.frozen 3
  have t4:=BRn.out.frozen 4
  have t5:=BRn.out.frozen 5
  have t6:=BRn.out.frozen 6
  go_wp2_with fail
  rw[Exit.noGoto_ret]
  exact bodyPost_ret (v:= .tuple #[.agg #[.int .i64 W, .int .i64 H, .slice a n c, .int .i64 X, .int .i64 Y, .int .i64 BW, .int .i64 BH], .int .i64 10]) (by simp[results,Tryz.results138,go_sem, *]) rfl ⟨by rw[HE.out],z_x⟩
 obtain rfl:k=m:=by omega
 have HE:=aA HCE.out
 have hxx:=HX3.out.trans XR.out
 have f0:=BFr.out.at 0 rfl;have f1:=BFr.out.at 1 rfl;have f2:=BFr.out.at 2 rfl;have fz:=BFr.out.lt
 have g0:=BBr.out.at 0 rfl;have g1:=BBr.out.at 1 rfl;have g2:=BBr.out.at 2 rfl;have g3:=BBr.out.at 3 rfl;have gz:=BBr.out.lt
 have r0:=BRr.out.at 0 rfl;have r1:=BRr.out.at 1 rfl;have r2:=BRr.out.at 2 rfl;have r3:=BRr.out.at 3 rfl;have r4:=BRr.out.at 4 rfl;have r5:=BRr.out.at 5 rfl;have r6:=BRr.out.at 6 rfl;have rz:=BRr.out.lt
 have t0:=BRr.out.frozen 0
 have t1:=BRr.out.frozen 1
 have t2:=BRr.out.frozen 2
 have t3:=BRr.out.frozen 3
 have t4:=BRr.out.frozen 4
 have t5:=BRr.out.frozen 5
 have t6:=BRr.out.frozen 6
 go_wp2_with fail
 rw[Exit.noGoto_ret]
 exact bodyPost_ret (v:= .tuple #[.agg #[.int .i64 W, .int .i64 H, .slice a n c, .int .i64 X, .int .i64 Y, .int .i64 BW, .int .i64 BH], .int .i64 0]) (by simp[results,Tryz.results138,go_sem, *]) rfl ⟨by rw[HE.out],z_x⟩
def aMq (W H:Int) (a:Option Addr) (n c:Nat) (s id:Int) (er:Int) (v:Value):Prop:=
 (er≠0∧ ∃x1 x2 a3 n3 c3 x4 x5 x6 x7,v= .agg #[.int .i64 x1, .int .i64 x2, .slice a3 n3 c3, .int .i64 x4, .int .i64 x5, .int .i64 x6, .int .i64 x7])∨
 (er=0∧v= .agg #[.int .i64 W, .int .i64 H, .slice a n c, .int .i64 (aR W s id), .int .i64 (aO W s id), .int .i64 (aZ W s id), .int .i64 (bA W H s id)])
theorem wA {w:World} (W H:Int) (a:Option Addr) (n c:Nat) (PW PH s id:Int) (ca:Option Addr) (cs:List aB) (cc:Nat) (hc:RowC w ca cs) (hl:cs.length≤1000000) (hi: ∀p∈cs,InI p.1∧InI p.2):
  Calls Tryz.prog 138 #[.agg #[.int .i64 W, .int .i64 H, .slice a n c], .agg #[.int .i64 PW, .int .i64 PH, .int .i64 s], .int .i64 id, .slice ca cs.length cc] w fun e w'=>(∃v,e= .returned (.tuple #[v, .int .i64 (dM W H n PW PH s id cs)])∧aMq W H a n c s id (dM W H n PW PH s id cs) v)∧Ext w w':=by
 by_cases h1:aX W H n=0
 ·by_cases h2:PW=W∧PH=H
  ·obtain⟨rfl,rfl⟩:=h2
   have he:dM PW PH n PW PH s id cs=if aK PW PH s=true then(if bad PW PH s id=true then 10 else cI PW PH s id cs cs.length) else 1:=by unfold dM;rw[if_pos h1,if_pos ⟨rfl,rfl⟩]
   have hh:jN PW PH s [id]=if aK PW PH s=true then(if bad PW PH s id=true then 10 else 0) else 1:=by unfold jN;simp
   by_cases h3:jN PW PH s [id]=0
   ·have hr:aK PW PH s=true:=by
     cases k:aK PW PH s
     ·rw[hh,k]at h3;cases h3
     rfl
    have hb:bad PW PH s id=false:=by
     cases k:bad PW PH s id
     ·rfl
     rw[hh,hr,k]at h3;cases h3
    have hbi:=bad_false_iff.1 hb
    rw[he,if_pos hr,if_neg (by rw[hb];simp)]
    refine(aBn PW PH a n c s id ca cs cc h1 hr hbi.1 hbi.2 hc hl hi).mono ?_
    rintro e w' ⟨rfl,hx⟩
    refine⟨⟨_,rfl,?_⟩,hx⟩
    by_cases h4:cI PW PH s id cs cs.length=0
    ·exact .inr ⟨h4,rfl⟩
    exact .inl ⟨h4,_,_,_,_,_,_,_,_,_,rfl⟩
   have hee:dM PW PH n PW PH s id cs=jN PW PH s [id]:=by
    rw[he,hh]
    cases k:aK PW PH s
    ·rfl
    cases k2:bad PW PH s id
    ·rw[hh,k,k2]at h3;exact absurd rfl h3
    rfl
   rw[hee]
   refine(aGm PW PH a n c s id ca cs.length cc h1 h3).mono ?_
   rintro e w' ⟨rfl,hx⟩
   exact⟨⟨_,rfl, .inl ⟨h3,_,_,_,_,_,_,_,_,_,rfl⟩⟩,hx⟩
  have hee:dM W H n PW PH s id cs=1:=by unfold dM;rw[if_pos h1,if_neg h2]
  rw[hee]
  refine(aE0 W H a n c PW PH s id ca cs.length cc h1 h2).mono ?_
  rintro e w' ⟨rfl,hx⟩
  exact⟨⟨_,rfl, .inl ⟨by decide,_,_,_,_,_,_,_,_,_,rfl⟩⟩,hx⟩
 have hee:dM W H n PW PH s id cs=aX W H n:=by unfold dM;rw[if_neg h1]
 rw[hee]
 refine(aBo W H a n c PW PH s id ca cs.length cc h1).mono ?_
 rintro e w' ⟨rfl,hx⟩
 exact⟨⟨_,rfl, .inl ⟨h1,_,_,_,_,_,_,_,_,_,rfl⟩⟩,hx⟩
theorem RowsAt.touch {S:Nat→Prop} {w w':World} {base:Nat} {v:Value} {ll:List (List Int)} (h:RowsAt w base v ll) (t:Touch S w w') (hs: ∀k,base≤k→ ¬S k):RowsAt w' base v ll:=by
 obtain⟨ss,h1,h2,h3⟩:=h
 exact⟨ss,Own.touch h1 t (fun k hk=>hs k (aF h1 hk).1),h2,fun i s r hs' hr=>Own.touch (h3 i s r hs' hr) t (fun k hk=>hs k (aF (h3 i s r hs' hr) hk).1)⟩
theorem RowsAt.lower {w:World} {base base':Nat} {v:Value} {ll:List (List Int)} (h:RowsAt w base v ll) (hb:base'≤base):RowsAt w base' v ll:=by
 obtain⟨ss,h1,h2,h3⟩:=h
 exact⟨ss,h1.lower hb,h2,fun i s r hs' hr=>(h3 i s r hs' hr).lower hb⟩
theorem aAs (w:World) (g:Nat) (x y:Value):Touch (fun j=>j=g) w ((w.setCell ⟨g,0,none⟩ x).setCell ⟨g,1,none⟩ y):=
 ((Touch.refl (fun j=>j=g) w).setCell (p:=⟨g,0,none⟩) (.inl rfl) x).setCell (p:=⟨g,1,none⟩) (.inl rfl) y
def uK (w:World) (pb:Nat) (W H:Int) (a:Option Addr) (n c:Nat) (bx byy bw bh:Int):Prop:=Blk w pb 232 #[.int .i64 W, .int .i64 H, .slice a n c, .int .i64 bx, .int .i64 byy, .int .i64 bw, .int .i64 bh]
set_option maxRecDepth 100000 in
theorem aJb {w:World} {W H:Int} {a:Option Addr} {l:List Int} {bx byy bw bh:Int} (L:LandP W H l bx byy bw bh) (c:Nat) {pb qb:Nat} (q:aB) (hq:bO bx byy bw bh q.1 q.2=true) {ca:Option Addr} {cs:List aB} (cc:Nat) (hcs: ∀q,q∈cs→bO bx byy bw bh q.1 q.2=true) (hl:cs.length≤1000000) (hr:Row16 w a l) (hc:RowC w ca cs)
  (hP:uK w pb W H a l.length c bx byy bw bh) (hQ:w.cell? ⟨qb,0,none⟩=some (.slice ca cs.length cc)):
  Calls Tryz.prog 140 (#[.agg #[.int .i64 q.1, .int .i64 q.2]]++ #[.pointer (some ⟨pb,0,none⟩), .pointer (some ⟨qb,0,none⟩)]) w fun e w'=> ∃s:Option Addr×Nat×Nat,e= .returned (.slice s.1 s.2.1 s.2.2)∧Ext w w'∧Own u64E w' w.heap.size 38 (.slice s.1 s.2.1 s.2.2) (fS L cs q):=by
 have HF:=aA (fun(w':World) (hx:Ext w w')=>aD0 (w:=w') L c q hq cc hcs hl (hr.ext hx) (hc.ext hx))
 have b0:w.cell? ⟨pb,0,none⟩=some (.int .i64 W):=Blk.at hP 0 rfl
 have b1:w.cell? ⟨pb,1,none⟩=some (.int .i64 H):=Blk.at hP 1 rfl
 have b2:w.cell? ⟨pb,2,none⟩=some (.slice a l.length c):=Blk.at hP 2 rfl
 have b3:w.cell? ⟨pb,3,none⟩=some (.int .i64 bx):=Blk.at hP 3 rfl
 have b4:w.cell? ⟨pb,4,none⟩=some (.int .i64 byy):=Blk.at hP 4 rfl
 have b5:w.cell? ⟨pb,5,none⟩=some (.int .i64 bw):=Blk.at hP 5 rfl
 have b6:w.cell? ⟨pb,6,none⟩=some (.int .i64 bh):=Blk.at hP 6 rfl
 have zp:pb<w.heap.size:=Blk.lt hP
 have zq:=World.block_lt_of_cell? w _ hQ
 simp only at zq
 obtain⟨n,hnn⟩: ∃z,l.length=z:=⟨_,rfl⟩
 obtain⟨m,hmm⟩: ∃z,cs.length=z:=⟨_,rfl⟩
 rw[hnn,hmm]at HF
 rw[hnn]at b2
 rw[hmm]at hQ
 obtain⟨x,y⟩:=q
 clear hq hcs hl hr hc hP hnn hmm
 simp only[List.append_toArray]at *
 go_enter Tryz.func140,Tryz.ntmps140
 go_wp2_with fail
 refine(HF.out _ z_x).mono ?_
 rintro e w1 ⟨sv,rfl,hb1,ho1⟩
 have O1:=aA (ho1.lower (base':=w.heap.size) (by simp))
 have hx1:Ext w w1:=z_x
 clear hb1 ho1
 go_wp2_with fail
 go_ret
 exact⟨sv,rfl,hx1,O1.out⟩
def aKq (W H s id:Int) (cs:List aB):Prop:= ∀q,q∈cs→bO (aR W s id) (aO W s id) (aZ W s id) (bA W H s id) q.1 q.2=true
theorem yF {W H s id:Int} (hr:aK W H s=true) (hi:0≤id∧id<cnt W H s) {cs:List aB} (h:cI W H s id cs cs.length=0):aKq W H s id cs:=fun q hq=>by
 obtain⟨k,hk,rfl⟩:=List.getElem_of_mem hq
 have h1:=yE (rG h k hk)
 rw[iN hr hi]at h1
 simpa [List.getD_eq_getElem?_getD,hk] using h1
set_option maxRecDepth 100000 in
set_option maxHeartbeats 400000 in
theorem aMa {w:World} {W H:Int} {a:Option Addr} {l:List Int} (c:Nat) {PW PH s id:Int} {ca:Option Addr} {cs:List aB} (cc:Nat) (hr:Row16 w a l) (hu:cV l) (hc:RowC w ca cs) (hl:cs.length≤1000000) (hi: ∀p∈cs,InI p.1∧InI p.2) (he:dM W H l.length PW PH s id cs=0) (L:fE W H s id l):
  Calls Tryz.prog 82 #[.agg #[.int .i64 W, .int .i64 H, .slice a l.length c], .agg #[.int .i64 PW, .int .i64 PH, .int .i64 s], .int .i64 id, .slice ca cs.length cc] w fun e w'=> ∃v1 v2,e= .returned (.tuple #[.agg #[v1,v2], .int .i64 0])∧Ext w w'∧Own cellE w' w.heap.size 28 v1 cs∧RowsAt w' w.heap.size v2 (cs.map (fS L cs)):=by
 obtain⟨e1,e2,e3,e4,e5,e6⟩:=innerE_ok.1 he
 have hok:=yF e4 e5 e6
 have HL:=aA (fun(w':World) (hx:Ext w w')=>wA (w:=w') W H a l.length c PW PH s id ca cs cc (hc.ext hx) hl hi)
 rw[he]at HL
 have HO:=aA (fun(w':World) (pb qb:Nat) (hx:Ext w w') (hP:uK w' pb W H a l.length c (aR W s id) (aO W s id) (aZ W s id) (bA W H s id)) (hQ:w'.cell? ⟨qb,0,none⟩=some (.slice ca cs.length cc)) (q:aB) (hq:q∈cs)=>aJb (w:=w') (pb:=pb) (qb:=qb) L c q (hok q hq) cc hok hl (hr.ext hx) (hc.ext hx) hP hQ)
 have HCL:=aA (fun(w':World) (hx:Ext w w')=>lJ (w:=w') cc hl (hc.ext hx))
 have HCO:=aA (fun(w':World) (hx:Ext w w')=>hc.ext hx)
 obtain⟨n,hn⟩: ∃z,l.length=z:=⟨_,rfl⟩
 rw[hn]at HL HO⊢
 obtain⟨m,hm⟩: ∃z,cs.length=z:=⟨_,rfl⟩
 have HM:=aA hm
 rw[hm]at HL HO HCL hl⊢
 clear hc hi he hr hu hok hn hm e1 e2 e3 e4 e5 e6
 go_enter Tryz.func82,Tryz.ntmps82
 go_wp2_with fail
 refine(HL.out _ z_x).mono ?_
 rintro e w1 ⟨⟨v,rfl,hv⟩,hb1⟩
 have BQ1:Hid (Blk w1 (w.heap.size+2) 37 #[.slice ca m cc]):=aA (by refine Blk.ext ?_ hb1;(repeat' (first|exact Blk.new_ (by simp)|refine Blk.drew ?_|refine Blk.over ?_)))
 have BR1:Hid (Blk w1 (w.heap.size+3) 166 #[.slice none 0 0, .slice none 0 0]):=aA (by refine Blk.ext ?_ hb1;(repeat' (first|exact Blk.new_ (by simp)|refine Blk.drew ?_|refine Blk.over ?_)))
 have HX1:=aA (show Ext w w1 from z_x)
 clear hb1
 rcases hv with⟨h0,_⟩|⟨_,rfl⟩
 ·exact absurd rfl h0
 have q0:=BQ1.out.at 0 rfl;have qz:=BQ1.out.lt
 go_wp2_with fail
 obtain⟨w2,hw2⟩: ∃w2,w2=w1.alloc (.cells #[.int .i64 W, .int .i64 H, .slice a n c, .int .i64 (aR W s id), .int .i64 (aO W s id), .int .i64 (aZ W s id), .int .i64 (bA W H s id)] 232):=⟨_,rfl⟩
 have hx2:Ext w1 w2:=by rw[hw2];exact(Ext.refl _).alloc _
 have PL2:=aA (show uK w2 w1.heap.size W H a n c (aR W s id) (aO W s id) (aZ W s id) (bA W H s id) by rw[hw2];exact Blk.new_ rfl)
 have BQ2:=aA (Blk.ext BQ1.out hx2)
 have BR2:=aA (Blk.ext BR1.out hx2)
 have HX2:=aA (HX1.out.trans hx2)
 have HC2:=aA (HCO.out w2 HX2.out)
 have hz1:w.heap.size+3<w1.heap.size:=BR1.out.lt
 have hz12:=hx2.size
 have hz23:w2.heap.size=w1.heap.size+1:=by rw[hw2];simp
 have HZ23:=aA hz23
 rw[←hw2]
 clear hw2 hx2 q0 qz BQ1 BR1 HX1 hz23
 have HE:=aBc (w:=w2) (f:=140) (caps:= #[.pointer (some ⟨w1.heap.size,0,none⟩), .pointer (some ⟨w.heap.size+2,0,none⟩)]) (g:=fS L cs) cc (by rw[HM.out];exact hl) HC2.out
  (fun w' hx q hq=>HO.out w' w1.heap.size (w.heap.size+2) (HX2.out.trans hx) (Blk.ext PL2.out hx) (by exact(Blk.ext BQ2.out hx).at 0 rfl) q hq)
  (enters_of Tryz.func140 (by kernel_rfl) rfl)
 rw[HM.out]at HE
 refine HE.mono ?_
 rintro e w3 ⟨v2,rfl,hx3,hrows⟩
 have hz2:=HX2.out.size
 have hz34:=hx3.size
 have R3:=aA hrows
 have BQ3:=aA (Blk.ext BQ2.out hx3)
 have BR3:=aA (Blk.ext BR2.out hx3)
 have HX3:=aA (HX2.out.trans hx3)
 obtain⟨ss,hss,_⟩:=hrows
 obtain⟨ra,rc,hrv⟩:=hss.slice
 subst hrv
 clear hss hx3 BQ2 BR2 PL2 HE
 have q0:=BQ3.out.at 0 rfl;have qz:=BQ3.out.lt
 go_wp2_with fail
 refine(HCL.out _ HX3.out).mono ?_
 rintro e w4 ⟨v1,rfl,hx4,ho4⟩
 have hz3:=HX3.out.size
 have R4:=aA (R3.out.ext hx4)
 have O4:=aA ho4
 have BR4:=aA (Blk.ext BR3.out hx4)
 have HX4:=aA (HX3.out.trans hx4)
 obtain⟨sa,sc,hsv⟩:=ho4.slice
 subst hsv
 clear hx4 ho4 q0 qz BR3 BQ3
 have r0:=BR4.out.at 0 rfl;have r1:=BR4.out.at 1 rfl;have rz:=BR4.out.lt
 have f0:=BR4.out.frozen 0
 have f1:=BR4.out.frozen 1
 have FIN:Hid (∀w',Touch (fun j=>j=w.heap.size+3) w4 w'→Ext w w'∧Own cellE w' w.heap.size 28 (.slice sa cs.length sc) cs∧RowsAt w' w.heap.size (.slice ra ss.length rc) (cs.map (fS L cs))):=aA (fun w' tt=>⟨((Touch.of_ext (S:=fun _=>False) HX4.out).after tt (fun j hj e=>by omega)).ext,(Own.touch O4.out tt (fun k hk e=>by have:=(aF O4.out hk).1;omega)).lower (by omega),(R4.out.touch tt (fun k hk e=>by omega)).lower (by omega)⟩)
 go_wp2_with fail
 exact bodyPost_ret (v:= .tuple #[.agg #[.slice sa cs.length sc, .slice ra ss.length rc], .int .i64 0]) (by simp[results,Tryz.results82,go_sem, *]) rfl ⟨_,_,rfl,FIN.out _ (aAs w4 _ _ _)⟩
end Go.Proofs.YtaellcgglldjaaaGreat

