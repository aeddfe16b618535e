/- Part of a proof: HierR. -/
import Derived.Test.YtaellcgglldjaaaGreatHierFindsQ44
import Derived.Test.YtaellcgglldjaaaGreatHierFindsQ35
import Derived.Test.YtaellcgglldjaaaGreatHierFindsQ38
set_option linter.all false
set_option linter.unusedVariables false
set_option linter.unusedSimpArgs false
namespace Go.Proofs.YtaellcgglldjaaaGreat
open Go.RowKit
attribute [local go_sem] Oper.semAt_some
def oP (A:AS):Prop:= ∀u v,A.st u=2→A.st v=1→A.g u≤A.g v
def xW (A:AS) (c:Nat):Prop:=oP A∧ ∀u,A.st u=2→A.g u≤A.g c
theorem aF1 {W:Int} {A:AS} {v:Nat} (h:oP A) (hb:eL W (fun _=>0) A v):xW (A.settle v) v:=by
 have hst: ∀u,(A.settle v).st u=if u=v then 2 else A.st u:=fun u=>rfl
 have h1: ∀u,(A.settle v).st u=2→A.g u≤A.g v:=fun u hu=>by
  rw[hst]at hu
  by_cases e:u=v
  ·rw[e];exact Int.le_refl _
  rw[if_neg e]at hu;exact h u v hu hb.1
 refine⟨fun u x hu hx=> ?_,h1⟩
 rw[hst]at hx
 by_cases e:x=v
 ·rw[if_pos e]at hx;cases hx
 rw[if_neg e]at hx
 have:=aCh hb hx
 have:=h1 u hu
 show A.g u≤A.g x
 omega
theorem aMk {A:AS} {c:Nat} {q:Nat×Int} (h:xW A c) (hc:A.st c=2) (hx:0≤q.2):xW (rl c A q) c:=by
 unfold rl
 split
 ·next ht=>
  have hst: ∀u,(A.put q.1 (A.g c+q.2) c).st u=if u=q.1 then 1 else A.st u:=fun u=>rfl
  have hg: ∀u,(A.put q.1 (A.g c+q.2) c).g u=if u=q.1 then A.g c+q.2 else A.g u:=fun u=>rfl
  have hnot:A.st q.1≠2:=by rcases ht with h|h<;>omega
  have hcq:c≠q.1:=fun e=>hnot (e▸hc)
  refine⟨fun u x hu hx2=> ?_,fun u hu=> ?_⟩
  ·rw[hst]at hu hx2
   by_cases eu:u=q.1
   ·rw[if_pos eu]at hu;cases hu
   rw[if_neg eu]at hu
   rw[hg,hg,if_neg eu]
   by_cases ex:x=q.1
   ·rw[if_pos ex];have:=h.2 u hu;omega
   rw[if_neg ex]at hx2;rw[if_neg ex];exact h.1 u x hu hx2
  rw[hst]at hu
  by_cases eu:u=q.1
  ·rw[if_pos eu]at hu;cases hu
  rw[if_neg eu]at hu
  rw[hg,hg,if_neg eu,if_neg hcq]
  exact h.2 u hu
 exact h
theorem vA {c:Nat}: ∀(L:List (Nat×Int)) {A:AS},xW A c→A.st c=2→(∀q∈L,0≤q.2)→xW (rls c A L) c
 |[],_,h,_,_=>h
 |q::L,A,h,hc,hl=>vA L (aMk h hc (hl q List.mem_cons_self)) (uA c A q c hc).1 (fun x hx=>hl x (List.mem_cons_of_mem _ hx))
theorem aJz (c:Nat) (A:AS) (L:List (Nat×Int)) (q:Nat×Int):rls c A (L++[q])=rl c (rls c A L) q:=by
 unfold rls;rw[List.foldl_append];rfl
section
variable {w0 w w':World} {sb lb h mg mc:Nat} {p:Spot} {R0:Nat→Prop} {W H s:Int} {l:List Int} {fa:Option Addr} {fc:Nat} {ga:Option Addr} {gc:Nat} {f t:aB} {S S' X:Nat→Prop} {A A0:AS} {n:Nat}
theorem HMem.move (m:HMem w sb lb h mg mc W n S A) (tt:Touch X w w') (hX: ¬X sb∧ ¬X mg∧ ¬X mc) (hs: ∀j,j<w.heap.size→S j→S' j∧ ¬X j) (hn: ¬S' sb∧ ¬S' mg∧ ¬S' mc) (hw: ∀j,w'.heap.size≤j→S' j):HMem w' sb lb h mg mc W n S' A where
 sea:=m.sea.touch tt hX.1
 gm:=by obtain⟨N,h1,h2⟩:=m.gm;exact⟨N,h1,h2.touch tt hX.2.1⟩
 cm:=by obtain⟨N,f,h1,h2,h3⟩:=m.cm;exact⟨N,f,h1,h2.touch tt hX.2.2,h3⟩
 heap:=by
  obtain⟨ts,h1,h2⟩:=m.heap
  have h3:HeapIs (fun j=>S' j∧ ¬X j) w h ts:=h1.mono fun k hk hS=>hs k hk hS
  exact⟨ts,(h3.touch tt (fun k hk=>hk.2)).mono (fun k _ hk=>hk.1),h2⟩
 ns:=⟨hn.1,hn.2.1,hn.2.2,m.ns.2.2.2⟩
 nw:=hw
theorem HMem.skip (m:HMem w sb lb h mg mc W n S A) (x:Ext w w'):HMem w' sb lb h mg mc W n (fun j=>S j∧(j<w.heap.size∨w'.heap.size≤j)) A:=
 m.move (X:=fun _=>False) (Touch.of_ext x) ⟨fun h=>h,fun h=>h,fun h=>h⟩ (fun j hj hS=>⟨⟨hS, .inl hj⟩,fun h=>h⟩) ⟨fun h=>m.ns.1 h.1,fun h=>m.ns.2.1 h.1,fun h=>m.ns.2.2.1 h.1⟩ (fun j hj=>⟨m.nw j (Nat.le_trans x.size hj), .inr hj⟩)
theorem HMem.settled (m:HMem w sb lb h mg mc W n S A) {ts':List aM} {v:Nat} (tt:Touch S w w') (hv:A.st v≠0) (hh:HeapIs S w' h ts') (hq:HQ (kOf W (fun _=>0) A) (A.settle v) ts'):HMem w' sb lb h mg mc W n S (A.settle v) where
 sea:=m.sea.touch tt m.ns.1
 gm:=by obtain⟨N,h1,h2⟩:=m.gm;exact⟨N,by rw[wI hv];exact h1,(h2.touch tt m.ns.2.1).congr (vT A hv)⟩
 cm:=by
  obtain⟨N,f,h1,h2,h3⟩:=m.cm
  have hst: ∀u,(A.settle v).st u=if u=v then 2 else A.st u:=fun u=>rfl
  refine⟨N,f,by rw[wI hv];exact h1,h2.touch tt m.ns.2.2.1,fun u hu=>h3.1 u ?_,fun u hu=>h3.2 u ?_⟩
  ·rw[hst]at hu
   by_cases e:u=v
   ·rw[if_pos e]at hu;cases hu
   rw[if_neg e]at hu;exact hu
  rw[hst]at hu
  by_cases e:u=v
  ·rw[e];exact hv
  rw[if_neg e]at hu;exact hu
 heap:=⟨ts',hh,hq⟩
 ns:=m.ns
 nw:=fun j hj=>m.nw j (Nat.le_trans tt.size hj)
theorem HeapIs.not_blk {l:List aM} {g:Nat} {ty:TypeId} {cs:Array Value} (H:HeapIs S w h l) (B:Blk w g ty cs) (h1:179≠ty) (h2:245≠ty):HeapIs (fun j=>S j∧j≠g) w h l:=by
 obtain⟨v,mb,H1,H2,H3⟩:=H
 refine⟨v,mb,H1,H2,fun k hk=>⟨H3 k hk,fun e=> ?_⟩⟩
 subst e
 rcases hk with hk|hk|hk
 ·subst hk
  have hb:=H1.blk
  unfold Blk at hb B
  rw[hb]at B
  injection B with B
  injection B with _ ht
  exact h1 ht
 ·exact B.ne_own H1.own h2 hk
 obtain⟨D,hm,_⟩:=H1.map
 exact B.ne_map hm hk
theorem HMem.narrow {g:Nat} {ty:TypeId} {cs:Array Value} (m:HMem w sb lb h mg mc W n S A) (B:Blk w g ty cs) (h1:179≠ty) (h2:245≠ty):HMem w sb lb h mg mc W n (fun j=>S j∧j≠g) A:=
 {m with
  heap:=by obtain⟨ts,a,b⟩:=m.heap;exact⟨ts,a.not_blk B h1 h2,b⟩
  ns:=⟨fun x=>m.ns.1 x.1,fun x=>m.ns.2.1 x.1,fun x=>m.ns.2.2.1 x.1,m.ns.2.2.2⟩
  nw:=fun j hj=>⟨m.nw j hj,by have:=B.lt;omega⟩}
def aLl (Q:Exit→Act→World→Prop):Exit→Act→World→Prop
 | .panic _,_,_=>False
 |e,a,w=>Q e a w
theorem aBr {Q:Exit→Act→World→Prop}: ∀(e:Exit) (a:Act) (w:World),aLl Q e a w→Q e a w
 | .panic _,_,_,h=>h.elim
 | .normal,_,_,h=>h
 | .ret,_,_,h=>h
 | .exit _,_,_,h=>h
 | .goto _,_,_,h=>h
 | .outgrown,_,_,h=>h
def aMf (r:Nat):Deferred:={target:= .collected r,args:= #[]}
theorem jP {F:Fence} {nn:Nat} {P:Program} {fn:Func} {tmps:Array Value} {RR:Ending→World→Prop}: ∀(rs:List Nat) {w:World},rs.Nodup→(∀r∈rs,w.heap[r]? =some (.deferred (some [])))→(∀w',Touch (fun k=>k∈rs) w w'→ ∃v,(results fn tmps).run P w'= .ok v w'∧RR (.returned v) w')→LeavesInM F nn P fn tmps RR (rs.map aMf) .returning w
 |[],w,_,_,h=>h w (Touch.refl _ w)
 |r::rs,w,hn,hm,h=>by
  obtain⟨h1,h2⟩:=List.nodup_cons.1 hn
  have hr:=hm r List.mem_cons_self
  have tt:Touch (fun j=>j=r) w (w.putObj r (.deferred none)):=cZ _ _
  refine⟨by simp, .inl ⟨r,_,rfl,run_takeDeferred hr,jP rs h2 (fun x hx=> ?_) (fun w' t'=>h w' ?_)⟩⟩
  ·have hx2:=hm x (List.mem_cons_of_mem _ hx)
   exact(tt.block x (Array.getElem?_eq_some_iff.1 hx2).1 (fun e=>h1 (e▸hx))).trans hx2
  exact(tt.mono (fun k _ e=>by rw[e];exact List.mem_cons_self)).trans (t'.mono (fun k _ hk=>List.mem_cons_of_mem _ hk))
structure Marks (B:Nat) (X:Nat→Prop) (rs:List Nat) (w:World):Prop where
 nodup:rs.Nodup
 low: ∀r∈rs,B≤r
 out: ∀r∈rs,¬X r
 at_: ∀r∈rs,w.heap[r]? =some (.deferred (some []))
theorem Marks.touch {B:Nat} {X Y:Nat→Prop} {rs:List Nat} {w w':World} (m:Marks B X rs w) (tt:Touch Y w w') (h: ∀r∈rs,¬Y r):Marks B X rs w':=
 ⟨m.nodup,m.low,m.out,fun r hr=>(tt.block r (Array.getElem?_eq_some_iff.1 (m.at_ r hr)).1 (h r hr)).trans (m.at_ r hr)⟩
theorem Marks.lt {B:Nat} {X:Nat→Prop} {rs:List Nat} {w:World} (m:Marks B X rs w) {r:Nat} (hr:r∈rs):r<w.heap.size:=(Array.getElem?_eq_some_iff.1 (m.at_ r hr)).1
def aMp (G:LGr) (W:Int) (t:Nat) (b:Int) (P:List Nat→List aB) (A0:AS) (base:Nat) (e:Ending) (w':World):Prop:=
 ∃(p:List aB) (c k er:Int) (v:Value),LRun G W t b P A0 p c k er∧e= .returned (.tuple #[.agg #[v, .int .u64 c, .int .i64 k], .int .i64 er])∧Own cellE w' base 28 v p
set_option maxRecDepth 100000 in
set_option maxHeartbeats 8000000 in
theorem aGh (L:HLand w0 lb p R0 W H s l fa fc ga gc f t) (hl:l.length≤150) (g:Good W H s l) (hgl:(aD W H s l).length≤45000) (hx0:Ext w0 w) (hS0: ∀j,S j→w0.heap.size≤j) (hz:w0.heap.size≤sb∧w0.heap.size≤mg∧w0.heap.size≤mc) (m0:HMem w sb lb h mg mc W l.length S A0) (I0:LInv (hGr g hl f t) (aC W f) A0) (M0:oP A0) (hc0:A0.cnt=0) (b:Int):
  Calls Tryz.prog 44 #[.pointer (some ⟨sb,0,none⟩), .int .i64 b] w fun e w'=>aMp (hGr g hl f t) W (aC W t) b (eB W H s l f) A0 w.heap.size e w'∧Touch (fun j=>S j∨j=mg∨j=mc) w w':=by
 have HL:=aA L
 have HS0:=aA hS0
 have HZ:=aA hz
 have HM0:=aA m0
 have HI0:=aA I0
 have HMo0:=aA M0
 have HC0:=aA hc0
 have HX0:=aA hx0
 have HGL:=aA hgl
 have hll:=g.len
 have hin:=bV L.inT
 have HIN:=aA hin
 have wh:=inB_true.1 L.inT
 obtain⟨G,hG⟩: ∃G,hGr g hl f t=G:=⟨_,rfl⟩
 have HG:=aA hG
 have HGN:Hid (G.n=l.length):=aA (by rw[←hG];rfl)
 rw[hG]at HI0⊢
 obtain⟨PF,hPF⟩: ∃z,eB W H s l f=z:=⟨_,rfl⟩
 have HPF:=aA hPF
 rw[hPF]
 clear L hS0 hz m0 I0 M0 hc0 hx0 hG hin hgl hPF
 refine callsIn_wide.1 (callsIn_of_wp_marks (n:=4) Tryz.func44 rfl trivial ((wpIn_wide (n:=4)).2 ?_))
 simp only[Tryz.ntmps44,List.size_toArray,List.length_cons,List.length_nil,Nat.reduceAdd,Nat.reduceSub,Array.replicate_succ,Array.replicate_zero,List.push_toArray,List.append_toArray,List.nil_append,List.cons_append]
 generalize hQ:bodyPostM _ _ _ _ _=Q'
 have HQ:=aA hQ
 clear hQ
 refine Code.wp_mono aBr ?_
 go_wp2_with fail
 obtain⟨w1,hw1⟩: ∃w1,w1=(w.alloc (.cells #[.pointer (some ⟨sb,0,none⟩)] 102)).alloc (.cells #[.slice none 0 0, .int .u64 0, .int .i64 0] 40):=⟨_,rfl⟩
 have hx1:Ext w w1:=by rw[hw1];exact z_x
 have hz1:w1.heap.size=w.heap.size+2:=by rw[hw1];simp
 have BP:Hid (Blk w1 w.heap.size 102 #[.pointer (some ⟨sb,0,none⟩)]):=aA (by rw[hw1];exact(Blk.new_ rfl).over)
 have BR:Hid (Blk w1 (w.heap.size+1) 40 #[.slice none 0 0, .int .u64 0, .int .i64 0]):=aA (by rw[hw1];exact Blk.new_ (by simp))
 have M1:=aA (HM0.out.skip hx1)
 have HX1:=aA hx1
 have HZ1:=aA hz1
 rw[←hw1]
 clear hw1 hx1 hz1
 obtain⟨S1,hS1⟩: ∃S1:Nat→Prop,(fun j=>S j∧(j<w.heap.size∨w1.heap.size≤j))=S1:=⟨_,rfl⟩
 have HS1:=aA (fun j=>(congrFun hS1 j).symm)
 rw[hS1]at M1
 have HNS:=aA M1.out.ns
 obtain⟨bp,hbp⟩: ∃z,w.heap.size=z:=⟨_,rfl⟩
 have HBP:=aA hbp
 have HW:Hid (∀wr,Touch (fun j=>S1 j∨j=mg∨j=mc) w1 wr→Blk wr bp 102 #[.pointer (some ⟨sb,0,none⟩)]∧Blk wr (bp+1) 40 #[.slice none 0 0, .int .u64 0, .int .i64 0]∧Ext w0 wr∧Touch (fun j=>S j∨j=mg∨j=mc) w wr∧bp+2≤wr.heap.size):=aA (fun wr tt=>by
  have e1: ∀j,S1 j→S j∧(j<w.heap.size∨w1.heap.size≤j):=fun j hj=>by rw[HS1.out j]at hj;exact hj
  have hsz:=tt.size
  have hz1:=HZ1.out
  have zmg:=HM0.out.gm
  obtain⟨_,_,q1⟩:=HM0.out.gm
  obtain⟨_,_,_,q2,_⟩:=HM0.out.cm
  have z1:=q1.lt
  have z2:=q2.lt
  rw[←hbp]
  refine⟨BP.out.touch tt (fun x=> ?_),BR.out.touch tt (fun x=> ?_),((Touch.of_ext (S:=fun _=>False) (HX0.out.trans HX1.out)).after tt (fun j hj x=> ?_)).ext,(Touch.of_ext HX1.out).after tt (fun j _ x=>x.imp (fun y=>(e1 _ y).1) id),by omega⟩
  ·rcases x with y|y|y
   ·have:=(e1 _ y).2;omega
   ·omega
   omega
  ·rcases x with y|y|y
   ·have:=(e1 _ y).2;omega
   ·omega
   omega
  have hz:=HZ.out
  rcases x with y|y|y
  ·have:=HS0.out _ (e1 _ y).1;omega
  ·omega
  omega)
 have HSB:Hid (sb≠bp∧sb≠bp+1∧bp+2≤w1.heap.size):=aA (by have:=HM0.out.sea.lt;have:=HZ1.out;omega)
 rw[hbp]
 have HMB:Hid (mg<bp∧mc<bp∧sb<bp):=aA (by
  obtain⟨_,_,q1⟩:=HM0.out.gm
  obtain⟨_,_,_,q2,_⟩:=HM0.out.cm
  have z1:=q1.lt
  have z2:=q2.lt
  have z3:=HM0.out.sea.lt
  have:=HBP.out
  omega)
 have HN1:Hid (¬S1 bp∧ ¬S1 (bp+1)):=aA (by
  have hz1:=HZ1.out
  refine⟨fun x=> ?_,fun x=> ?_⟩<;>(rw[HS1.out]at x;omega)
  )
 clear hS1 hbp BP BR HM0
 refine wp_loop (fun a' w'=> ∃(rs:List Nat) (u5 s6 u7 u8 u9 u10 u11 u12 u13 u14 u15 u16 u17 u18 u19 u20 u21 u22 u23 u24 u25 u26 u27 u28 u29 u30 u31 u32 u33 u34 u35 u36 u37 u38 u39 u40 u41 u42 u43 u44 u45 u46 u47 u48 u49 u50 u51 u52 u53 u54 u55 u56 u57 u58 u59 u60 u61 u62 u63 u64 u65 u66 u67 u68 u69:Value),(∃(A:AS) (S2:Nat→Prop),s6= .int .i64 A.cnt∧LInv G (aC W f) A∧oP A∧HMem w' sb lb h mg mc W l.length S2 A∧(∀j,S2 j→S1 j)∧(∀p cc k er,LRun G W (aC W t) b PF A p cc k er→LRun G W (aC W t) b PF A0 p cc k er)∧Marks w1.heap.size (fun j=>S2 j∨j=mg∨j=mc) rs w'∧Touch (fun j=>S1 j∨j=mg∨j=mc) w1 w')∧
   a'={tmps:= #[.pointer (some ⟨sb,0,none⟩), .int .i64 b, .pointer (some ⟨bp,0,none⟩),undef, .pointer (some ⟨bp+1,0,none⟩),u5,s6,u7,u8,u9,u10,u11,u12,u13,u14,u15,u16,u17,u18,u19,u20,u21,u22,u23,u24,u25,u26,u27,u28,u29,u30,u31,u32,u33,u34,u35,u36,u37,u38,u39,u40,u41,u42,u43,u44,u45,u46,u47,u48,u49,u50,u51,u52,u53,u54,u55,u56,u57,u58,u59,u60,u61,u62,u63,u64,u65,u66,u67,u68,u69,undef,undef],defers:=rs.map aMf}) (fun a' _=>l.length+1-(intOf (a'.tmps.getD 6 undef)).toNat) ?atStart ?round
 case atStart=>
  refine⟨[],?_⟩
  (repeat apply Exists.intro)
  refine⟨⟨A0,S1,?_,HI0.out,HMo0.out,M1.out,fun _ x=>x,fun _ _ _ _ x=>x,⟨List.nodup_nil,(fun _ h=>by cases h),(fun _ h=>by cases h),(fun _ h=>by cases h)⟩,Touch.refl _ _⟩,rfl⟩
  rw[HC0.out]
 rintro a' wr ⟨rs,u5,s6,u7,u8,u9,u10,u11,u12,u13,u14,u15,u16,u17,u18,u19,u20,u21,u22,u23,u24,u25,u26,u27,u28,u29,u30,u31,u32,u33,u34,u35,u36,u37,u38,u39,u40,u41,u42,u43,u44,u45,u46,u47,u48,u49,u50,u51,u52,u53,u54,u55,u56,u57,u58,u59,u60,u61,u62,u63,u64,u65,u66,u67,u68,u69,⟨A,S2,rfl,hI,hMo,hm,hss,hA,hmk,htt⟩,rfl⟩
 dsimp only
 have MK:=aA hmk
 have HSS:=aA hss
 clear hmk hss
 have II:=aA hI
 have MO:=aA hMo
 have MM:=aA hm
 have HA:=aA hA
 have TT:=aA htt
 obtain⟨bpr,brr,hxr,htw,hzr⟩:=HW.out _ htt
 have BPr:=aA bpr
 have BRr:=aA brr
 have XRr:=aA hxr
 have HTw:=aA htw
 have SEr:=aA hm.sea
 have hfew:=hI.few
 rw[HGN.out]at hfew
 obtain⟨ts,hts,hq⟩:=hm.heap
 have HTS:=aA hts
 have HQ1:=aA hq
 have HLn:=aA (aCw hts)
 clear hI hMo hm hA htt bpr brr hxr htw hts hq M1 HI0 HMo0
 have p0:=BPr.out.at 0 rfl;have pz:=BPr.out.lt
 have s0:=SEr.out.at 0 rfl;have s1:=SEr.out.at 1 rfl;have s2:=SEr.out.at 2 rfl;have s3:=SEr.out.at 3 rfl;have sz:=SEr.out.lt
 by_cases hnil:ts=[]
 ·subst hnil
  have hno: ∀v,A.st v≠1:=fun v hv=>by have:=HQ1.out.fin v hv;simp[ids]at this
  have HRUN:=aA (HA.out _ _ _ _ (LRun.none hno))
  have r0:=BRr.out.at 0 rfl;have r1:=BRr.out.at 1 rfl;have r2:=BRr.out.at 2 rfl;have rz:=BRr.out.lt
  have f0:=BRr.out.frozen 0
  have f1:=BRr.out.frozen 1
  have f2:=BRr.out.frozen 2
  clear hno
  go_wp2_with fail
  refine(HLn.out).mono ?_
  rintro e w2 ⟨rfl,rfl⟩
  have HBW:=aA (show Blk (((wr.setCell ⟨bp+1,0,none⟩ (.slice none 0 0)).setCell ⟨bp+1,1,none⟩ (.int .u64 0)).setCell ⟨bp+1,2,none⟩ (.int .i64 A.cnt)) (bp+1) 40 #[.slice none 0 0, .int .u64 0, .int .i64 A.cnt] by have h:=((BRr.out.set_ 0 (.slice none 0 0)).set_ 1 (.int .u64 0)).set_ 2 (.int .i64 A.cnt);simpa using h)
  have tw:Touch (fun k=>k=bp+1) wr (((wr.setCell ⟨bp+1,0,none⟩ (.slice none 0 0)).setCell ⟨bp+1,1,none⟩ (.int .u64 0)).setCell ⟨bp+1,2,none⟩ (.int .i64 A.cnt)):=(((Touch.refl (fun j=>j=bp+1) wr).setCell (p:=⟨bp+1,0,none⟩) (.inl rfl) _).setCell (p:=⟨bp+1,1,none⟩) (.inl rfl) _).setCell (p:=⟨bp+1,2,none⟩) (.inl rfl) _
  have MKW:=aA (MK.out.touch tw (fun r hr e=>by have:=MK.out.low r hr;have:=HSB.out;omega))
  have TWW:=aA (HTw.out.after tw (fun k hk e=>by have:=HBP.out;omega))
  clear tw
  go_wp2_with fail
  rw[←HQ.out]
  show LeavesInM _ _ _ _ _ _ _ _ _
  refine jP rs MKW.out.nodup MKW.out.at_ fun w' tt=> ?_
  have BW:=HBW.out.touch tt (fun hr=>by have:=MKW.out.low _ hr;have:=HSB.out;omega)
  have TF:=TWW.out.after tt (fun k hk hr=>by have:=MKW.out.low _ hr;have:=HSB.out;have:=HBP.out;omega)
  have y0:=BW.at 0 rfl
  have y1:=BW.at 1 rfl
  have y2:=BW.at 2 rfl
  refine⟨.tuple #[.agg #[.slice none 0 0, .int .u64 0, .int .i64 A.cnt], .int .i64 22],by simp[results,Tryz.results44,go_sem, *],?_⟩
  exact⟨⟨[],0,A.cnt,22,_,HRUN.out,rfl,Own.nil _ _ _ _⟩,TF⟩
 have hlen:0<ts.length:=List.length_pos_iff.2 hnil
 obtain⟨v1,hv1⟩: ∃v,A.st v=1:=by
  cases ts with
  |nil=>exact absurd rfl hnil
  |cons x r=>obtain⟨v,_,h1⟩:=HQ1.out.thing x List.mem_cons_self;exact⟨v,h1⟩
 have hop1:=II.out.opens hv1
 rw[HGN.out]at hop1
 clear hnil
 by_cases hbud:A.cnt=b
 ·have HRUN:=aA (HA.out _ _ _ _ (LRun.full (G:=G) (W:=W) (t:=aC W t) (P:=PF) v1 hv1 hbud))
  have hbb:(A.cnt==b)=true:=by simpa using hbud
  have r0:=BRr.out.at 0 rfl;have r1:=BRr.out.at 1 rfl;have r2:=BRr.out.at 2 rfl;have rz:=BRr.out.lt
  have f0:=BRr.out.frozen 0
  have f1:=BRr.out.frozen 1
  have f2:=BRr.out.frozen 2
  clear hbud hv1
  go_wp2_with fail
  refine(HLn.out).mono ?_
  rintro e w2 ⟨rfl,rfl⟩
  have HBW:=aA (show Blk (((wr.setCell ⟨bp+1,0,none⟩ (.slice none 0 0)).setCell ⟨bp+1,1,none⟩ (.int .u64 0)).setCell ⟨bp+1,2,none⟩ (.int .i64 A.cnt)) (bp+1) 40 #[.slice none 0 0, .int .u64 0, .int .i64 A.cnt] by have h:=((BRr.out.set_ 0 (.slice none 0 0)).set_ 1 (.int .u64 0)).set_ 2 (.int .i64 A.cnt);simpa using h)
  have tw:Touch (fun k=>k=bp+1) wr (((wr.setCell ⟨bp+1,0,none⟩ (.slice none 0 0)).setCell ⟨bp+1,1,none⟩ (.int .u64 0)).setCell ⟨bp+1,2,none⟩ (.int .i64 A.cnt)):=(((Touch.refl (fun j=>j=bp+1) wr).setCell (p:=⟨bp+1,0,none⟩) (.inl rfl) _).setCell (p:=⟨bp+1,1,none⟩) (.inl rfl) _).setCell (p:=⟨bp+1,2,none⟩) (.inl rfl) _
  have MKW:=aA (MK.out.touch tw (fun r hr e=>by have:=MK.out.low r hr;have:=HSB.out;omega))
  have TWW:=aA (HTw.out.after tw (fun k hk e=>by have:=HBP.out;omega))
  clear tw
  go_wp2_with fail
  rw[←HQ.out]
  show LeavesInM _ _ _ _ _ _ _ _ _
  refine jP rs MKW.out.nodup MKW.out.at_ fun w' tt=> ?_
  have BW:=HBW.out.touch tt (fun hr=>by have:=MKW.out.low _ hr;have:=HSB.out;omega)
  have TF:=TWW.out.after tt (fun k hk hr=>by have:=MKW.out.low _ hr;have:=HSB.out;have:=HBP.out;omega)
  have y0:=BW.at 0 rfl
  have y1:=BW.at 1 rfl
  have y2:=BW.at 2 rfl
  refine⟨.tuple #[.agg #[.slice none 0 0, .int .u64 0, .int .i64 A.cnt], .int .i64 23],by simp[results,Tryz.results44,go_sem, *],?_⟩
  exact⟨⟨[],0,A.cnt,23,_,HRUN.out,rfl,Own.nil _ _ _ _⟩,TF⟩
 have hbb:(A.cnt==b)=false:=by simpa using hbud
 have HBUD:=aA hbud
 have hops: ∀u,A.st u≠0→u<l.length:=fun u hu=>by have:=G.lt u (II.out.op u hu);rw[HGN.out]at this;exact this
 have HOPS:=aA hops
 have hfewt:=HQ1.out.few hops
 have HPOP:=aA (uO HTS.out (by omega) hlen)
 clear hbud hv1
 go_wp2_with fail
 refine(HLn.out).mono ?_
 rintro e w2 ⟨rfl,rfl⟩
 go_wp2_with fail
 refine(HPOP.out).mono ?_
 rintro e w2 ⟨rfl,ts2,h2,p2,t2⟩
 obtain⟨v,htop,hst1,hbest,hq2⟩:=HQ1.out.pop HTS.out.ok p2
 have hvn:=hops v (by omega)
 have hb:eL W (fun _=>0) A v:=⟨hst1,hbest⟩
 have M2:=aA (MM.out.settled t2 (by omega) h2 hq2)
 have TP2:=aA (aF1 MO.out hb)
 have I2:=aA (rP II.out hst1)
 have HB:=aA hb
 have hgb:=II.out.bd v (by omega)
 have HGB:=aA hgb
 have T2:=aA (TT.out.trans (t2.mono (fun k _ h=> .inl (HSS.out k h))))
 have MK2:=aA (MK.out.touch t2 (fun r hr hS=>MK.out.out r hr (.inl hS)))
 have hzr2:=t2.size
 have HZR:=aA hzr2
 clear hzr2
 obtain⟨bp2,br2,xr2,tw2,zr2⟩:=HW.out _ T2.out
 have BP2:=aA bp2
 have SE2:=aA M2.out.sea
 have hcv:=qE g hvn
 rw[htop]
 unfold kOf
 simp only[eX,Int.add_zero]
 obtain⟨X,hX⟩: ∃z,vx W v=z:=⟨_,rfl⟩
 obtain⟨Y,hY⟩: ∃z,vy W v=z:=⟨_,rfl⟩
 have hcu:aG W v=(X,Y):=by unfold aG;rw[hX,hY]
 have HXY:=aA (And.intro hX hY)
 have HCU:=aA hcu
 have HCV:=aA hcv
 have HST1:=aA hst1
 obtain⟨gv,hgv⟩: ∃z,A.g v=z:=⟨_,rfl⟩
 have HGV:=aA hgv
 rw[hgv]at hgb
 rw[hX,hY,hgv]
 clear t2 h2 hq2 hb hst1 hX hY htop hbest p2 HPOP HLn hops hgv hcu hcv bp2 br2 tw2 BPr SEr p0 pz s0 s1 s2 s3 sz
 have p0:=BP2.out.at 0 rfl;have pz:=BP2.out.lt
 go_upto_region 8 with(fail)
 obtain⟨w3,hw3⟩: ∃w3,w3=(w2.alloc (.cells #[.int .u64 gv, .int .u64 0, .int .i64 Y, .int .i64 X] 181)).alloc (.cells #[.int .i64 X, .int .i64 Y] 28):=⟨_,rfl⟩
 have hx3:Ext w2 w3:=by rw[hw3];exact((Ext.refl _).alloc _).alloc _
 have KB3:=aA (show Blk w3 w2.heap.size 181 #[.int .u64 gv, .int .u64 0, .int .i64 Y, .int .i64 X] by rw[hw3];exact(Blk.new_ rfl).over)
 have CB3:=aA (show Blk w3 (w2.heap.size+1) 28 #[.int .i64 X, .int .i64 Y] by rw[hw3];exact Blk.new_ (by simp))
 have hz3:w3.heap.size=w2.heap.size+2:=by rw[hw3];simp
 have X3:=aA hx3
 have HZ3:=aA hz3
 have M3:=aA (M2.out.skip hx3)
 have T3:=aA (T2.out.trans (Touch.of_ext hx3))
 obtain⟨bp3,br3,xr3,tw3,zr3⟩:=HW.out _ T3.out
 have BP3:=aA bp3
 have BR3:=aA br3
 have XR3:=aA xr3
 have TW3:=aA tw3
 have SE3:=aA M3.out.sea
 have LB3:=aA (HL.out.ext xr3).blk
 unfold eJ at LB3
 rw[←hw3]
 obtain⟨kb,hkb⟩: ∃z,w2.heap.size=z:=⟨_,rfl⟩
 have HKB:=aA hkb
 rw[hkb]at KB3 CB3⊢
 have hz3':kb+2≤w3.heap.size:=by omega
 clear hw3 hx3 hz3 hkb bp3 br3 xr3 tw3 p0 pz BP2 M2 SE2
 obtain⟨S3,hS3⟩: ∃z:Nat→Prop,z=(fun j=>S2 j∧(j<w2.heap.size∨w3.heap.size≤j)):=⟨_,rfl⟩
 rw[←hS3]at M3
 have HS3:=aA hS3
 clear hS3
 obtain⟨nm,hnm⟩: ∃z,(aD W H s l).length=z:=⟨_,rfl⟩
 obtain⟨pb,hpb⟩: ∃z,p.b=z:=⟨_,rfl⟩
 obtain⟨nl,hnl⟩: ∃z,l.length=z:=⟨_,rfl⟩
 rw[hnm,hpb,hnl]at LB3
 clear hnm hpb hnl
 have p0:=BP3.out.at 0 rfl;have pz:=BP3.out.lt
 have s0:=SE3.out.at 0 rfl;have s1:=SE3.out.at 1 rfl;have s2:=SE3.out.at 2 rfl;have s3:=SE3.out.at 3 rfl;have sz:=SE3.out.lt
 have b0:=LB3.out.at 0 rfl;have b1:=LB3.out.at 1 rfl;have b2:=LB3.out.at 2 rfl;have b3:=LB3.out.at 3 rfl;have b4:=LB3.out.at 4 rfl;have b5:=LB3.out.at 5 rfl;have b6:=LB3.out.at 6 rfl;have b7:=LB3.out.at 7 rfl;have b8:=LB3.out.at 8 rfl;have b9:=LB3.out.at 9 rfl;have b10:=LB3.out.at 10 rfl;have b11:=LB3.out.at 11 rfl;have bz:=LB3.out.lt
 have c0:=CB3.out.at 0 rfl;have c1:=CB3.out.at 1 rfl;have cz:=CB3.out.lt
 have k0:=KB3.out.at 0 rfl;have k1:=KB3.out.at 1 rfl;have k2:=KB3.out.at 2 rfl;have k3:=KB3.out.at 3 rfl;have kz:=KB3.out.lt
 have HEQ:=fun(w:World)=>bC (X,Y) t w
 simp only at HEQ
 rw[bB]at HEQ
 by_cases hvt:(X,Y)=t
 ·have hd:decide ((X,Y)=t)=true:=decide_eq_true hvt
  rw[hd]at HEQ
  have hvi:v=aC W t:=by rw[←hvt,←HCU.out,HCV.out.2]
  have HVI:=aA hvi
  obtain⟨ch,c1,c2,c3⟩:=qF I2.out ((A.settle v).g v).toNat v (by have:=HGB.out;show A.g v=_;have e:(A.settle v).g v=A.g v:=rfl;rw[e];omega) (by have e:(A.settle v).st v=2:=cC _ _ _;omega)
  have hll2:ch.length≤l.length:=fR c3 (fun u hu=>by have:=G.lt u (I2.out.op u (c2 u hu).1);rw[HGN.out]at this;exact this)
  have HRUN:=aA (HA.out _ _ _ _ (LRun.found (G:=G) (W:=W) (t:=aC W t) (b:=b) (P:=PF) (by rw[←hvi];exact HB.out) HBUD.out (by rw[←hvi];exact c1)))
  rw[show A.g (aC W t)=gv by rw[←hvi,HGV.out]]at HRUN
  have HPA:=aA (fun(w':World) (hx:Ext w3 w')=>aDz HL.out hl g (XR3.out.trans hx) (M3.out.ext hx) (by rw[HG.out];exact I2.out) (by have e:(A.settle v).st v=2:=cC _ _ _;omega) c1 (by omega))
  rw[HXY.out.1,HXY.out.2,HPF.out]at HPA
  clear hvt hd hvi c1 c2 c3
  refine aS w3 [(0,true),(1,true),(2,true),(3,true),(4,true),(5,true),(6,true),(7,true),(8,true)] (fun hK0=> ?_)
  iterate 9 (refine SeqH.fr1 ?_;try simp only[zz])
  refine SeqH.done ?_
  have hx4:=hK0.2
  have C3:=aA (show CellsAt [(⟨bp,0,none⟩, .pointer (some ⟨sb,0,none⟩)),(⟨kb,0,none⟩, .int .u64 gv),(⟨kb+1,0,none⟩, .int .i64 X),(⟨kb+1,1,none⟩, .int .i64 Y)] w3 from⟨p0,k0,c0,c1,trivial⟩)
  have HKBP:Hid (bp+2≤kb):=aA (by have:=HKB.out;omega)
  clear hK0 hx4 p0 pz s0 s1 s2 s3 sz b0 b1 b2 b3 b4 b5 b6 b7 b8 b9 b10 b11 bz c0 c1 cz k0 k1 k2 k3 kz HEQ
  go_upto_region 9 with(fail)
  refine bM (S:=(CellsAt [(⟨bp,0,none⟩, .pointer (some ⟨sb,0,none⟩)),(⟨kb,0,none⟩, .int .u64 gv),(⟨kb+1,0,none⟩, .int .i64 X),(⟨kb+1,1,none⟩, .int .i64 Y)])) [(0,true),(1,true),(3,true),(4,true),(5,true),(2,false),(6,true),(7,false),(8,true)] (by kernel_rfl) (by kernel_rfl) (by kernel_rfl) (by decide) (fun _ _ d _ _ h=>by cases d<;>exact h) (CellsAt.ext z_x C3.out) (fun hK0=> ?_)
  iterate 5 (refine SeqH.fr2 ?_;try simp only[zz])
  (refine aP ?_;intro K hK;go_simp;refine(HPA.out _ z_x).mono ?_;rintro e w5 ⟨r,rfl,hx5,hr5⟩;have hx35:Ext w3 w5:=z_x;obtain⟨ra,rc,rfl⟩:=hr5.slice;have HR5:=aA (hr5.lower (base':=w3.heap.size) (show Ext w3 _ from z_x).size);have HX35:=aA hx35;have BR5:=BR3.out.ext hx35;have BRH:=aA BR5;have r0:=BR5.at 0 rfl;have r1:=BR5.at 1 rfl;have r2:=BR5.at 2 rfl;have rz:=BR5.lt;have f0:=BR5.frozen 0;have f1:=BR5.frozen 1;have f2:=BR5.frozen 2;have S5:=aA (show CellsAt [(⟨bp,0,none⟩, .pointer (some ⟨sb,0,none⟩)),(⟨kb,0,none⟩, .int .u64 gv),(⟨kb+1,0,none⟩, .int .i64 X),(⟨kb+1,1,none⟩, .int .i64 Y)] w5 from CellsAt.ext hx35 C3.out);have FS5:Hid (∀w',Touch (fun j=>j=bp+1) w5 w'→CellsAt [(⟨bp,0,none⟩, .pointer (some ⟨sb,0,none⟩)),(⟨kb,0,none⟩, .int .u64 gv),(⟨kb+1,0,none⟩, .int .i64 X),(⟨kb+1,1,none⟩, .int .i64 Y)] w'):=aA (fun w' tt=>S5.out.touch tt (by intro p hp;have:=HKBP.out;simp only[List.mem_cons,List.not_mem_nil,or_false]at hp;rcases hp with rfl|rfl|rfl|rfl;(·exact fun h=>by have h2:bp=bp+1:=h;omega);(·exact fun h=>by have h2:kb=bp+1:=h;omega);(·exact fun h=>by have h2:kb+1=bp+1:=h;omega);(·exact fun h=>by have h2:kb+1=bp+1:=h;omega)));clear hx5 hr5 hx35 BR5;go_wp2_with fail;refine hK.out _ _ (S5.out) (fun hK0=> ?_);clear hK K;try simp only[zz])
  iterate 1 (refine SeqH.fr2 ?_;try simp only[zz])
  (refine aP ?_;intro K hK;go_simp;refine hK.out _ _ (FS5.out _ ((((Touch.refl (fun j=>j=bp+1) w5).setCell (p:=⟨bp+1,0,none⟩) (.inl rfl) _).setCell (p:=⟨bp+1,1,none⟩) (.inl rfl) _).setCell (p:=⟨bp+1,2,none⟩) (.inl rfl) _)) (fun hK0=> ?_);clear hK K;try simp only[zz])
  iterate 1 (refine SeqH.fr2 ?_;try simp only[zz])
  refine SeqH.done ?_
  clear hK0
  have tF:Touch (fun j=>j=bp+1) w5 (((w5.setCell ⟨bp+1,0,none⟩ (.slice ra (PF ch).length rc)).setCell ⟨bp+1,1,none⟩ (.int .u64 gv)).setCell ⟨bp+1,2,none⟩ (.int .i64 (A.cnt+1))):=(((Touch.refl (fun j=>j=bp+1) w5).setCell (p:=⟨bp+1,0,none⟩) (.inl rfl) _).setCell (p:=⟨bp+1,1,none⟩) (.inl rfl) _).setCell (p:=⟨bp+1,2,none⟩) (.inl rfl) _
  have HOW:=aA (HR5.out.touch tF (fun k hk e=>by have:=(aF HR5.out hk).1;have:=HKBP.out;have:=hz3';omega))
  have HTF:=aA (((TW3.out.trans (Touch.of_ext HX35.out)).after tF (fun k hk e=>by have:=HBP.out;omega)))
  have HBW:=aA (show Blk (((w5.setCell ⟨bp+1,0,none⟩ (.slice ra (PF ch).length rc)).setCell ⟨bp+1,1,none⟩ (.int .u64 gv)).setCell ⟨bp+1,2,none⟩ (.int .i64 (A.cnt+1))) (bp+1) 40 #[.slice ra (PF ch).length rc, .int .u64 gv, .int .i64 (A.cnt+1)] by have h:=((BRH.out.set_ 0 (.slice ra (PF ch).length rc)).set_ 1 (.int .u64 gv)).set_ 2 (.int .i64 (A.cnt+1));simpa using h)
  have MK3:=aA (MK2.out.touch (Touch.of_ext (S:=fun _=>False) X3.out) (fun r hr h=>h))
  have MKW:=aA ((MK3.out.touch (Touch.of_ext (S:=fun _=>False) HX35.out) (fun r hr h=>h)).touch tF (fun r hr e=>by have:=MK.out.low r hr;have:=HSB.out;omega))
  clear tF
  go_wp2_with fail
  rw[←HQ.out]
  show LeavesInM _ _ _ _ _ _ _ _ _
  refine jP rs MKW.out.nodup MKW.out.at_ fun w' tt=> ?_
  have BW:=HBW.out.touch tt (fun hr=>by have:=MKW.out.low _ hr;have:=HSB.out;omega)
  have TF:=HTF.out.after tt (fun k hk hr=>by have:=MKW.out.low _ hr;have:=HSB.out;have:=HBP.out;omega)
  have y0:=BW.at 0 rfl
  have y1:=BW.at 1 rfl
  have y2:=BW.at 2 rfl
  refine⟨.tuple #[.agg #[.slice ra (PF ch).length rc, .int .u64 gv, .int .i64 (A.cnt+1)], .int .i64 0],by simp[results,Tryz.results44,go_sem,y0,y1,y2],?_⟩
  exact⟨⟨PF ch,gv,A.cnt+1,0,_,HRUN.out,rfl,(HOW.out.touch tt (fun k hk hr=>by have:=(aF HOW.out hk).1;have:=MK3.out.lt hr;omega)).lower (by have:=TW3.out.size;omega)⟩,TF⟩
 have hd:decide ((X,Y)=t)=false:=decide_eq_false hvt
 rw[hd]at HEQ
 have HVN:Hid (v≠aC W t):=aA (fun e=>hvt (by rw[←HCU.out,e];exact HIN.out))
 clear hvt hd
 refine aS w3 [(0,true),(1,true),(2,true),(3,true),(4,true),(5,true),(6,true),(7,true),(8,true)] (fun hK0=> ?_)
 iterate 9 (refine SeqH.fr1 ?_;try simp only[zz])
 refine SeqH.done ?_
 clear hK0
 go_upto_region 10 with(fail)
 obtain⟨w4,hw4⟩: ∃z,z=w3.drew:=⟨_,rfl⟩
 have X4:=aA (show Ext w3 w4 by rw[hw4];exact(Ext.refl _).drew)
 have hz4:w4.heap.size=w3.heap.size:=by rw[hw4];rfl
 have HZ4:=aA hz4
 rw[←hw4]
 clear hw4 hz4
 have BP4:=aA (BP3.out.ext X4.out)
 have SE4:=aA (SE3.out.ext X4.out)
 have CB4:=aA (CB3.out.ext X4.out)
 clear p0 pz s0 s1 s2 s3 sz b0 b1 b2 b3 b4 b5 b6 b7 b8 b9 b10 b11 bz c0 c1 cz k0 k1 k2 k3 kz HEQ SE3 CB3
 have p0:=BP4.out.at 0 rfl;have pz:=BP4.out.lt
 have s0:=SE4.out.at 0 rfl;have s1:=SE4.out.at 1 rfl;have s2:=SE4.out.at 2 rfl;have s3:=SE4.out.at 3 rfl;have sz:=SE4.out.lt
 have c0:=CB4.out.at 0 rfl;have c1:=CB4.out.at 1 rfl;have cz:=CB4.out.lt
 refine aS w4 [(0,true),(1,true),(2,true),(3,true),(4,true),(5,false)] (fun hK0=> ?_)
 iterate 5 (refine SeqH.fr1 ?_;try simp only[zz])
 (refine aP ?_;intro K hK;go_simp;refine(aBm (lb:=lb) (X,Y) _).mono ?_;rintro e w5 ⟨rfl,hw5⟩;have x5:Ext w4 w5:=(by rw[hw5];exact z_x);have HW5:=aA (show Blk w5 w4.heap.size 98 #[.pointer (some ⟨lb,0,none⟩)]∧Blk w5 (w4.heap.size+1) 28 #[.int .i64 X, .int .i64 Y]∧w5.heap.size=w4.heap.size+2 from⟨by rw[hw5];exact(Blk.new_ (by simp)).over,by rw[hw5];exact Blk.new_ (by simp),by rw[hw5];simp⟩);clear hw5;go_wp2_with fail;refine hK.out _ _ (aI z_x) (fun hK0=> ?_);clear hK K;try simp only[zz])
 refine SeqH.done ?_
 have X5:=aA (X4.out.trans hK0.2)
 clear hK0 x5 p0 pz s0 s1 s2 s3 sz c0 c1 cz BP4 SE4 CB4
 go_wp2_with fail
 obtain⟨BL,BA,hz5⟩:=HW5.out
 have M5:=aA (M3.out.skip X5.out)
 obtain⟨S5,hS5⟩: ∃z:Nat→Prop,z=(fun j=>S3 j∧(j<w3.heap.size∨w5.heap.size≤j)):=⟨_,rfl⟩
 rw[←hS5]at M5
 have T5:=aA (T3.out.trans (Touch.of_ext X5.out))
 have T05:=aA (HW.out _ T5.out)
 obtain⟨n1,n2,n3,n4,n5,n6⟩:=M5.out.ns
 have zsb:=M5.out.sea.lt
 obtain⟨_,_,hmg⟩:=M5.out.gm
 obtain⟨_,_,_,hmc,_⟩:=M5.out.cm
 have zmg:=hmg.lt
 have zmc:=hmc.lt
 have hz4:=HZ4.out
 have hz3:=HZ3.out
 have hkb:=HKB.out
 have hS52: ∀j,S5 j→S2 j:=fun j hj=>by rw[hS5,HS3.out]at hj;exact hj.1.1
 have hS1w: ∀j,S1 j→w0.heap.size≤j:=fun j hj=>by rw[HS1.out]at hj;exact HS0.out j hj.1
 have hS5a: ∀j,S5 j→S1 j∧j≠w4.heap.size∧j≠w4.heap.size+1∧j≠kb∧j≠kb+1:=fun j hj=>by
  rw[hS5,HS3.out]at hj
  obtain⟨⟨h1,h2⟩,h3⟩:=hj
  exact⟨HSS.out _ h1,by omega,by omega,by omega,by omega⟩
 have HMV: ∀(T T':Nat→Prop) (Xx:Nat→Prop) (W1 W2:World) (A':AS),(∀k,T k→w5.heap.size≤k)→(∀j,j<W1.heap.size→T' j→T j)→(∀j,T' j→j<W2.heap.size)→w5.heap.size≤W1.heap.size→Touch Xx W1 W2→(∀j,Xx j→w5.heap.size≤j∧(T j∨j<w5.heap.size+2))→
   HMem W1 sb lb h mg mc W l.length (fun j=>S5 j∧ ¬T j∧(j<w5.heap.size∨w5.heap.size+2≤j∨W1.heap.size≤j)) A'→HMem W2 sb lb h mg mc W l.length (fun j=>S5 j∧ ¬T' j∧(j<w5.heap.size∨w5.heap.size+2≤j∨W2.heap.size≤j)) A':=fun T T' Xx W1 W2 A' a1 a2 a3 a4 tt a5 mm=>by
  have ts:=tt.size
  refine mm.move tt ⟨fun hx=>by have:=(a5 _ hx).1;omega,fun hx=>by have:=(a5 _ hx).1;omega,fun hx=>by have:=(a5 _ hx).1;omega⟩ (fun j hj hS=>⟨⟨hS.1,fun hT=>hS.2.1 (a2 j hj hT),by have:=hS.2.2;omega⟩,fun hx=> ?_⟩) ⟨fun x=>n1 x.1,fun x=>n2 x.1,fun x=>n3 x.1⟩ (fun j hj=>⟨(mm.nw j (by omega)).1,fun hT=>by have:=a3 j hT;omega, .inr (.inr hj)⟩)
  obtain⟨x1,x2⟩:=a5 j hx
  have:=hS.2.2
  rcases x2 with x2|x2
  ·exact hS.2.1 x2
  omega
 have hseq:=zI (w:=w5) HL.out (XR3.out.trans X5.out) HGL.out (a:=(X,Y)) (by rw[←HCU.out];exact HCV.out.1) BL BA
 have eg: ∀args w,(callFunc 99 args).run Tryz.prog w= .ok (.enter 99 args) w:=enters_of Tryz.func99 (by kernel_rfl) rfl
 have hRl: ∀k,(k<w0.heap.size∨k=w4.heap.size∨k=w4.heap.size+1)→k<w5.heap.size:=fun k hk=>by have:=(XR3.out.trans X5.out).size;omega
 refine(wpIn_wide (n:=4)).1 ?_
 refine xL (g:= .tmp 60) (psl:=61) (bs:=11) (v:=fun q:aB×Int=>cD (X,Y) q.1 q.2) (cs:=fun q:aB×Int=> #[.int .i64 X, .int .i64 Y, .int .i64 q.1.1, .int .i64 q.1.2, .int .u64 q.2]) (t:=56) (gf:=99) ?hg eg hseq
  (fun T pre W1=>(∀k,T k→w5.heap.size≤k∧k<W1.heap.size)∧w5.heap.size≤W1.heap.size∧HMem W1 sb lb h mg mc W l.length (fun j=>S5 j∧ ¬T j∧(j<w5.heap.size∨w5.heap.size+2≤j∨W1.heap.size≤j)) (rls v (A.settle v) (pre.map fun q=>(aC W q.1,q.2)))∧Touch (fun j=>S5 j∨j=mg∨j=mc) w5 W1)
  hRl ?hO ?hA ?hE ?hN ?hS ⟨fun _ hh=>hh.elim,Nat.le_refl _,M5.out.move (X:=fun _=>False) (Touch.refl _ _) ⟨fun x=>x,fun x=>x,fun x=>x⟩ (fun j hj hS=>⟨⟨hS,fun x=>x, .inl hj⟩,fun x=>x⟩) ⟨fun x=>n1 x.1,fun x=>n2 x.1,fun x=>n3 x.1⟩ (fun j hj=>⟨M5.out.nw j hj,fun x=>x, .inr (.inr hj)⟩),Touch.refl _ _⟩ ?assign ?body ?done
 case hg=>rfl
 case hO=>
  rintro T pre W1 W2 ⟨i1,i2,i3,i4⟩ tt
  exact⟨fun k hk=>⟨(i1 k hk).1,Nat.lt_of_lt_of_le (i1 k hk).2 tt.size⟩,Nat.le_trans i2 tt.size,HMV T T _ W1 W2 _ (fun k hk=>(i1 k hk).1) (fun j _ x=>x) (fun j hj=>Nat.lt_of_lt_of_le (i1 j hj).2 tt.size) i2 tt (fun j hj=>⟨by omega, .inr (by omega)⟩) i3,i4.after tt (fun k hk e=>by omega)⟩
 case hA=>
  rintro T pre W1 o ⟨i1,i2,i3,i4⟩
  have hzz:(W1.alloc o).heap.size=W1.heap.size+1:=by simp
  exact⟨fun k hk=>hk.elim (fun h=>⟨(i1 k h).1,by have:=(i1 k h).2;omega⟩) (fun e=>⟨by omega,by omega⟩),by omega,HMV T _ (fun _=>False) W1 _ _ (fun k hk=>(i1 k hk).1) (fun j hj x=>x.elim id (fun e=>by omega)) (fun j hj=>hj.elim (fun h=>by have:=(i1 j h).2;omega) (fun e=>by omega)) i2 (Touch.of_ext ((Ext.refl _).alloc o)) (fun j hj=>hj.elim) i3,i4.trans (Touch.of_ext ((Ext.refl _).alloc o))⟩
 case hE=>
  rintro T pre W1 W2 ⟨i1,i2,i3,i4⟩ e
  exact⟨fun k hk=>⟨(i1 k hk).1,Nat.lt_of_lt_of_le (i1 k hk).2 e.size⟩,Nat.le_trans i2 e.size,HMV T T (fun _=>False) W1 W2 _ (fun k hk=>(i1 k hk).1) (fun j _ x=>x) (fun j hj=>Nat.lt_of_lt_of_le (i1 j hj).2 e.size) i2 (Touch.of_ext e) (fun j hj=>hj.elim) i3,i4.trans (Touch.of_ext e)⟩
 case hN=>
  rintro T pre W1 W2 ⟨i1,i2,i3,i4⟩ e
  have ez:=e.size
  exact⟨fun k hk=>hk.elim (fun h=>⟨(i1 k h).1,by have:=(i1 k h).2;omega⟩) (fun e=>⟨by omega,e.2⟩),by omega,HMV T _ (fun _=>False) W1 W2 _ (fun k hk=>(i1 k hk).1) (fun j hj x=>x.elim id (fun e=>by omega)) (fun j hj=>hj.elim (fun h=>by have:=(i1 j h).2;omega) (fun e=>e.2)) i2 (Touch.of_ext e) (fun j hj=>hj.elim) i3,i4.trans (Touch.of_ext e)⟩
 case hS=>
  rintro T pre W1 q u ⟨i1,i2,i3,i4⟩ hq
  have tt:Touch (fun k=>k=q.block) W1 (W1.setCell q u):=(Touch.refl (fun k=>k=q.block) W1).setCell (.inl rfl) u
  have hqb:=i1 _ hq
  exact⟨fun k hk=>⟨(i1 k hk).1,Nat.lt_of_lt_of_le (i1 k hk).2 tt.size⟩,Nat.le_trans i2 tt.size,HMV T T _ W1 _ _ (fun k hk=>(i1 k hk).1) (fun j _ x=>x) (fun j hj=>Nat.lt_of_lt_of_le (i1 j hj).2 tt.size) i2 tt (fun j hj=>by subst hj;exact⟨hqb.1, .inl hq⟩) i3,i4.after tt (fun k hk e=>by omega)⟩
 case assign=>
  intro q W1 K hK
  clear hz5 hz4 hz3 hkb HMV
  unfold cD at hK⊢
  simp only[List.setIfInBounds_toArray,List.set_cons_zero,List.set_cons_succ]at hK⊢
  gi_wp2
  exact hK W1.heap.size _ z_x (kC _ _) (Nat.le_refl _)
 case body=>
  rintro T pre q Bx W1 ⟨i1,i2,i3,i4⟩ hb hzx hz2 hpre
  have hmb:=HMB.out
  have hkbp:bp+2≤kb:=by omega
  have LB:Blk W1 Bx 56 #[.int .i64 X, .int .i64 Y, .int .i64 q.1.1, .int .i64 q.1.2, .int .u64 q.2]:=hb
  have zBx:=LB.lt
  have TW:=T5.out.trans (i4.mono (fun k _ h=>h.imp (fun y=>(hS5a _ y).1) id))
  obtain⟨bpW,_,x0W,_,_⟩:=HW.out _ TW
  have hn1:=HN1.out
  have hzz:=HZ.out
  have kbW:Blk W1 kb 181 #[.int .u64 gv, .int .u64 0, .int .i64 Y, .int .i64 X]:=(KB3.out.ext X5.out).touch i4 (fun h=>by
   rcases h with h|h|h
   ·exact(hS5a _ h).2.2.2.1 rfl
   ·omega
   omega)
  have C1:Hid (CellsAt [(⟨bp,0,none⟩, .pointer (some ⟨sb,0,none⟩)),(⟨kb,0,none⟩, .int .u64 gv),(⟨Bx,0,none⟩, .int .i64 X),(⟨Bx,1,none⟩, .int .i64 Y),(⟨Bx,2,none⟩, .int .i64 q.1.1),(⟨Bx,3,none⟩, .int .i64 q.1.2),(⟨Bx,4,none⟩, .int .u64 q.2)] W1):=aA ⟨bpW.at 0 rfl,kbW.at 0 rfl,LB.at 0 rfl,LB.at 1 rfl,LB.at 2 rfl,LB.at 3 rfl,LB.at 4 rfl,trivial⟩
  have MN:=aA (i3.narrow LB (by decide) (by decide))
  have hleg: ∀r,r∈pre++[q]→r∈cB W H s l (aD W H s l) f t (X,Y):=fun r hr=>hpre.subset hr
  have hin1:inB W H X Y=true:=by have h:=HCV.out.1;rw[HCU.out]at h;exact h
  have hlegG: ∀r,r∈pre++[q]→(aC W r.1,r.2)∈G.legs v:=fun r hr=>by
   rw[←HG.out]
   show(aC W r.1,r.2)∈iI W H s l (aD W H s l) f t v
   unfold iI
   rw[HCU.out]
   exact List.mem_map.2 ⟨r,hleg r hr,rfl⟩
  have hok:=fun r hr=>kY g hl hin1 (hleg r hr)
  have hq1:=hok q (by simp)
  have hqin:=dJ g hq1.1
  have hA2:=aA9 v (pre.map fun q=>(aC W q.1,q.2)) (A.settle v) v (cC _ _ _)
  have hgv:(rls v (A.settle v) (pre.map fun q=>(aC W q.1,q.2))).g v=gv:=hA2.2.1.trans HGV.out
  have hIA:=sI (pre.map fun q=>(aC W q.1,q.2)) I2.out (cC _ _ _) (fun r hr=>by
   obtain⟨x,hx,rfl⟩:=List.mem_map.1 hr
   exact hlegG x (List.mem_append_left _ hx))
  have hTA:=vA (pre.map fun q=>(aC W q.1,q.2)) TP2.out (cC _ _ _) (fun r hr=>by
   obtain⟨x,hx,rfl⟩:=List.mem_map.1 hr
   have:=hok x (List.mem_append_left _ hx)
   simp only
   omega)
  have hrl:rls v (A.settle v) ((pre++[q]).map fun q=>(aC W q.1,q.2))=rl v (rls v (A.settle v) (pre.map fun q=>(aC W q.1,q.2))) (aC W q.1,q.2):=by
   rw[List.map_append];exact aJz _ _ _ _
  obtain⟨A1,hA1⟩: ∃z,rls v (A.settle v) (pre.map fun q=>(aC W q.1,q.2))=z:=⟨_,rfl⟩
  rw[hA1]at MN hgv hIA hTA hrl hA2
  have hbnd:0≤gv∧gv+q.2≤100000000000:=by
   have h1:=HGB.out
   rw[HGV.out]at h1
   have h2:=hq1.2.2.2.1
   have h3:=II.out.few
   rw[HGN.out]at h3
   omega
  have HSA:=aA (fun(w':World)=>(by
   have h:=uE gv q.2 w' hbnd.1 (by have:=hq1.2.2.1;omega) (by have:=hq1.2.2.1;omega) (by omega)
   rw[if_pos (by omega)]at h
   exact h:Calls Tryz.prog 91 #[.int .u64 gv, .int .u64 q.2] w' fun e w''=>e= .returned (.int .u64 (gv+q.2))∧Ext w' w''))
  have HRE:=aA (fun(w':World) (x:Ext W1 w')=>rK HL.out (x0W.trans x) (MN.out.ext x) (aC W q.1) (iW (checkE_ok.1 g.ok).2 hqin) (X,Y) q.2 (gv+q.2) (v:Int) ⟨by have:=hq1.2.2.1;omega,hbnd.2⟩ (fun u hu=>(by have e:u=v:=(by omega);rw[e];exact HCU.out.symm)) (fun u hu=>by have:=G.lt u (hIA.op u hu);rw[HGN.out]at this;exact this) (hIA.two _) (fun h2=>by have:=hTA.2 _ h2;have:=hq1.2.2.1;omega))
  rw[bV hqin]at HRE
  rw[show(if A1.takes (aC W q.1) (gv+q.2) then A1.put (aC W q.1) (gv+q.2) (v:Int) else A1)=rl v A1 (aC W q.1,q.2) by unfold rl;rw[hgv]]at HRE
  have HRL:=aA hrl
  have I4:=aA i4
  have I1:=aA i1
  have HS5A:=aA hS5a
  have HS1W:=aA hS1w
  have HNUM:=aA (show mg<bp∧mc<bp∧sb<bp∧bp+2≤kb∧kb+2≤w3.heap.size∧w4.heap.size=w3.heap.size∧w5.heap.size=w4.heap.size+2∧w5.heap.size+2≤W1.heap.size∧w5.heap.size+2≤Bx∧w0.heap.size≤mg∧w0.heap.size≤mc by omega)
  have HNN:=aA (And.intro hn1.1 (And.intro n1 (And.intro n2 n3)))
  unfold cD at HRE
  obtain⟨⟨q1,q2⟩,q3⟩:=q
  simp only at C1 HSA HRE HRL
  unfold cD
  simp only[List.setIfInBounds_toArray,List.set_cons_zero,List.set_cons_succ]
  clear hb hz5 hz4 hz3 hkb hmb hkbp hn1 hzz hA1 hgv hIA hTA hrl hA2 hbnd hq1 hqin hok hleg hlegG hpre hS5a hS5 hS52 hS1w HMV i1 i3 i4 n1 n2 n3 n4 n5 n6 zsb zmg zmc hmg hmc TW bpW kbW LB zBx hzx hseq eg hRl BL BA x0W hin1
  gi_wp2_with fail
  refine uF (S:=(CellsAt [(⟨bp,0,none⟩, .pointer (some ⟨sb,0,none⟩)),(⟨kb,0,none⟩, .int .u64 gv),(⟨Bx,0,none⟩, .int .i64 X),(⟨Bx,1,none⟩, .int .i64 Y),(⟨Bx,2,none⟩, .int .i64 q1),(⟨Bx,3,none⟩, .int .i64 q2),(⟨Bx,4,none⟩, .int .u64 q3)])) [(0,true),(1,true),(2,true),(3,true),(4,true),(5,true),(6,false),(7,false)] (fun _=>trivial) (by kernel_rfl) (by kernel_rfl) (by kernel_rfl) (by kernel_rfl) (by decide) (fun _ _ d _ _ h=>by cases d<;>exact h) (CellsAt.ext ((Ext.refl _).drew) C1.out) (fun hK0=> ?_)
  iterate 6 (refine SeqN.fr2 ?_;try simp only[zz])
  (apply SeqN.step;(·(simp only[z_0,z_1,z_2];rfl));intro K hK;go_simp;gi_wp2_with (refine⟨trivial,?_⟩;gi_at_call 91;refine(callsIn_wide.2 (HSA.out _)).mono ?_;rintro e w7 ⟨rfl,x7⟩;have X7:=aA (show Ext W1 w7 from z_x);clear x7);refine hK.out _ _ (CellsAt.ext X7.out C1.out) (fun hK0=> ?_);clear hK K;try simp only[zz])
  (apply SeqN.step;(·(simp only[z_0,z_1,z_2];rfl));intro K hK;go_simp;gi_wp2_with (refine⟨trivial,?_⟩;gi_at_call 43;refine(callsIn_wide.2 (HRE.out _ (by first|exact X7.out|exact X7.out.drew))).mono ?_;rintro e w8 ⟨rfl,m8,t8⟩;have M8:=aA m8;have T8:=aA ((Touch.of_ext X7.out).trans t8);have S8:=aA ((CellsAt.ext X7.out C1.out).touch t8 (by intro p hp;have hN:=HNUM.out;simp only[List.mem_cons,List.not_mem_nil,or_false]at hp;rcases hp with rfl|rfl|rfl|rfl|rfl|rfl|rfl;(·exact fun hh=>by rcases hh with hh|hh|hh;(·exact HNN.out.1 (HS5A.out _ hh.1.1).1);(·have hh:bp=mg:=hh;omega);(·have hh:bp=mc:=hh;omega));(·exact fun hh=>by rcases hh with hh|hh|hh;(·exact(HS5A.out _ hh.1.1).2.2.2.1 rfl);(·have hh:kb=mg:=hh;omega);(·have hh:kb=mc:=hh;omega));all_goals (exact fun hh=>by rcases hh with hh|hh|hh;(·exact hh.2 rfl);(·have hh:Bx=mg:=hh;omega);(·have hh:Bx=mc:=hh;omega))));clear m8 t8);refine hK.out _ _ (S8.out) (fun hK0=> ?_);clear hK K;try simp only[zz])
  refine SeqN.done ?_
  clear hK0
  gi_wp2_with fail
  have m8:=M8.out
  have t8:=T8.out
  have hN:=HNUM.out
  have z8:=t8.size
  have hmg: ∀k,(k=mg∨k=mc)→ ¬T k∧ ¬(k<w0.heap.size∨k=w4.heap.size∨k=w4.heap.size+1)∧k≠w5.heap.size∧k≠w5.heap.size+1:=fun k hk=>⟨fun hT=>by have:=(I1.out k hT).1;omega,by omega,by omega,by omega⟩
  have hss5: ∀k,((S5 k∧ ¬T k∧(k<w5.heap.size∨w5.heap.size+2≤k∨W1.heap.size≤k))∧k≠Bx)→ ¬T k∧ ¬(k<w0.heap.size∨k=w4.heap.size∨k=w4.heap.size+1)∧k≠w5.heap.size∧k≠w5.heap.size+1:=fun k hk=>by
   obtain⟨⟨h1,h2,h3⟩,h4⟩:=hk
   obtain⟨a1,a2,a3,_⟩:=HS5A.out k h1
   have:=HS1W.out k a1
   exact⟨h2,by omega,by omega,by omega⟩
  refine⟨⟨fun k hk=>⟨(I1.out k hk).1,Nat.lt_of_lt_of_le (I1.out k hk).2 z8⟩,by omega,?_,?_⟩,?_⟩
  ·have h:=m8.move (X:=fun _=>False) (S':=fun j=>S5 j∧ ¬T j∧(j<w5.heap.size∨w5.heap.size+2≤j∨w8.heap.size≤j)) (Touch.refl _ _) ⟨fun x=>x,fun x=>x,fun x=>x⟩ (fun j hj hS=>⟨⟨hS.1.1,hS.1.2.1,by have:=hS.1.2.2;omega⟩,fun x=>x⟩) ⟨fun x=>HNN.out.2.1 x.1,fun x=>HNN.out.2.2.1 x.1,fun x=>HNN.out.2.2.2 x.1⟩ (fun j hj=>⟨(m8.nw j hj).1.1,(m8.nw j hj).1.2.1, .inr (.inr hj)⟩)
   rw[←HRL.out,List.map_append]at h
   exact h
  ·exact I4.out.trans (t8.mono (fun k _ h=>h.imp (fun y=>y.1.1) id))
  refine t8.mono fun k _ h=> ?_
  rcases h with h|h
  ·have:=hss5 k h
   simpa using this
  have:=hmg k h
  simpa using this
 rintro T W1 ⟨i1,i2,i3,i4⟩ hD
 dsimp only
 have hmb:=HMB.out
 have hzz:=HZ.out
 have hsz4:=i4.size
 have TW:=T5.out.trans (i4.mono (fun k _ h=>h.imp (fun y=>(hS5a _ y).1) id))
 have hstep:rls v (A.settle v) ((cB W H s l (aD W H s l) f t (X,Y)).map fun q=>(aC W q.1,q.2))=eG G A v:=by
  unfold eG
  rw[←HG.out]
  show _=rls v (A.settle v) (iI W H s l (aD W H s l) f t v)
  unfold iI
  rw[HCU.out]
 rw[hstep]at i3
 have hI2:LInv G (aC W f) (eG G A v):=qG II.out HST1.out
 have hM2:oP (eG G A v):=(vA (G.legs v) TP2.out (cC _ _ _) (fun r hr=>by
  have h1:=G.leg v (II.out.op v (by have:=HST1.out;omega)) r hr
  omega)).1
 have hcnt:(eG G A v).cnt=A.cnt+1:=aDc G A v
 have hnew:HMem W1 sb lb h mg mc W l.length (fun j=>S2 j∧j≠w5.heap.size) (eG G A v):=i3.move (X:=fun _=>False) (Touch.refl _ _) ⟨fun x=>x,fun x=>x,fun x=>x⟩ (fun j hj hS=>⟨⟨(hS52 j hS.1),by have:=hS.2.2;omega⟩,fun x=>x⟩) ⟨fun x=>MM.out.ns.1 x.1,fun x=>MM.out.ns.2.1 x.1,fun x=>MM.out.ns.2.2.1 x.1⟩ (fun j hj=>⟨hS52 j (i3.nw j hj).1,by have:=(Array.getElem?_eq_some_iff.1 hD).1;omega⟩)
 have hmk5:Marks w1.heap.size (fun j=>S2 j∨j=mg∨j=mc) rs W1:=((MK2.out.touch (Touch.of_ext (S:=fun _=>False) (X3.out.trans X5.out)) (fun r hr h=>h)).touch i4 (fun r hr hh=>MK2.out.out r hr (hh.imp (fun y=>hS52 r y) id)))
 have hmk6:Marks w1.heap.size (fun j=>(S2 j∧j≠w5.heap.size)∨j=mg∨j=mc) (w5.heap.size::rs) W1:={
  nodup:=List.nodup_cons.2 ⟨fun hr=>by have:=MK2.out.lt hr;omega,hmk5.nodup⟩
  low:=fun r hr=>by
   rcases List.mem_cons.1 hr with rfl|hr
   ·have:=T5.out.size;omega
   exact hmk5.low r hr
  out:=fun r hr=>by
   rcases List.mem_cons.1 hr with rfl|hr
   ·rintro(h|h|h)
    ·exact h.2 rfl
    ·omega
    omega
   exact fun h=>hmk5.out r hr (h.imp (fun y=>y.1) id)
  at_:=fun r hr=>by
   rcases List.mem_cons.1 hr with rfl|hr
   ·exact hD
   exact hmk5.at_ r hr}
 have HREL:=aA (show ∃(A1:AS) (S2':Nat→Prop),Value.int .i64 (A.cnt+1)= .int .i64 A1.cnt∧LInv G (aC W f) A1∧oP A1∧HMem W1 sb lb h mg mc W l.length S2' A1∧(∀j,S2' j→S1 j)∧(∀p cc k er,LRun G W (aC W t) b PF A1 p cc k er→LRun G W (aC W t) b PF A0 p cc k er)∧Marks w1.heap.size (fun j=>S2' j∨j=mg∨j=mc) (w5.heap.size::rs) W1∧Touch (fun j=>S1 j∨j=mg∨j=mc) w1 W1 from
  ⟨eG G A v,_,by rw[hcnt],hI2,hM2,hnew,fun j hj=>HSS.out j hj.1,fun p cc k er hr=>HA.out p cc k er (LRun.next HB.out HBUD.out HVN.out hr),hmk6,TW⟩)
 have HLT:=aA (show A.cnt<l.length∧0≤A.cnt by have:=II.out.few;have:=II.out.opens HST1.out;rw[HGN.out]at this;omega)
 clear i1 i2 i3 i4 hD hstep hI2 hM2 hcnt hnew hmk5 hmk6 TW hmb hzz hsz4 hz5 hz4 hz3 hkb HMV hS5a hS1w hS52 hseq eg hRl
 go_wp2_with fail
 refine⟨⟨w5.heap.size::rs,?_⟩,?_⟩
 ·(repeat apply Exists.intro)
  refine⟨HREL.out,rfl⟩
 have:=HLT.out
 simp[intOf]
 omega
end
end Go.Proofs.YtaellcgglldjaaaGreat

