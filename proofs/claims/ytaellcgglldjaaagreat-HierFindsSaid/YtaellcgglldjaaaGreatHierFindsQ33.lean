/- Part of a proof: HierE. -/
import Derived.Test.YtaellcgglldjaaaGreatHierFindsQ30
import Derived.Test.YtaellcgglldjaaaGreatHierFindsQ17
import Derived.Test.YtaellcgglldjaaaGreatHierFindsQ16
import Derived.Test.YtaellcgglldjaaaGreatHierFindsQ23
set_option linter.all false
set_option linter.unusedVariables false
set_option linter.unusedSimpArgs false
namespace Go.Proofs.YtaellcgglldjaaaGreat
open Go.RowKit
theorem aE2 {w:World} {a:Option Addr} {l:List aB} {n:Nat} (c:Nat) (hn:l.length=n) (hl:n≤1000000) (hr:RowC w a l) (q:aB):
  Calls Tryz.prog 96 #[.slice a n c, .agg #[.int .i64 q.1, .int .i64 q.2]] w fun e w'=>e= .returned (.int .i64 (mK (fun c=>decide (c=q)) l))∧Ext w w':=by
 have HR:=aA hr
 have HN:=aA hn
 clear hn
 have HG1:=aA (fun(k:Nat) (hk:k<l.length) (h: ∀j (hj:j<k),l[j]'(by omega)≠q) (hp:l[k]=q)=>uM (p:=fun c=>decide (c=q)) hk (fun j hj=>decide_eq_false (h j hj)) (decide_eq_true hp))
 have HG2:=aA (fun(h: ∀j (hj:j<l.length),l[j]≠q)=>vX (p:=fun c=>decide (c=q)) (fun j hj=>decide_eq_false (h j hj)))
 generalize mK (fun c=>decide (c=q)) l=z at *
 obtain⟨qx,qy⟩:=q
 clear hr
 simp only
 go_enter Tryz.func96,Tryz.ntmps96
 go_wp2_with fail
 obtain⟨w1,hw1⟩: ∃z,z=w.alloc (.cells #[.int .i64 qx, .int .i64 qy] 28):=⟨_,rfl⟩
 have X1:=aA (show Ext w w1 by rw[hw1];exact(Ext.refl _).alloc _)
 have Q1:=aA (show Blk w1 w.heap.size 28 #[.int .i64 qx, .int .i64 qy] by rw[hw1];exact Blk.new_ rfl)
 rw[←hw1]
 clear hw1
 go_loopw [8] (fun iv wr=> ∃k:Nat,k≤n∧iv= .int .i64 (k:Int)∧(∀j (hj:j<l.length),j<k→l[j]≠(qx,qy))∧Ext w1 wr) (fun iv _=>n-(intOf iv).toNat)
 case atStart=>exact⟨0,Nat.zero_le _,rfl,(fun j _ h=>absurd h (Nat.not_lt_zero j)),Ext.refl _⟩
 obtain⟨k,hk,rfl,hno,hx⟩:=hrel
 have HNO:=aA hno
 have XR:=aA hx
 have QR:=aA (Q1.out.ext hx)
 have zr:=hx.size
 have zw:=X1.out.size
 clear hno hx
 have c0:=QR.out.at 0 rfl;have c1:=QR.out.at 1 rfl;have cz:=QR.out.lt
 by_cases hlt:k<n
 ·have hkl:k<l.length:=by rw[HN.out];exact hlt
  obtain⟨b,off,rfl,hb,hc⟩:=HR.out (by omega)
  obtain⟨q0,q1⟩:=hc k hkl
  have d0:=((X1.out.trans XR.out).cell (p:=⟨b,off+k*2,none⟩) hb).trans q0
  have d1:=((X1.out.trans XR.out).cell (p:=⟨b,off+k*2+1,none⟩) hb).trans q1
  have hbw:b<wr.heap.size:=by omega
  have jk:(k:Int)<(n:Int):=by omega
  have hE:=fun(w:World)=>bC (qx,qy) (l[k].1,l[k].2) w
  simp only at hE
  rw[bB]at hE
  by_cases he:l[k]=(qx,qy)
  ·have hz:=HG1.out k hkl (fun j hj=>HNO.out j (by omega) hj) he
   have hd:decide ((qx,qy)=(l[k].1,l[k].2))=true:=by rw[decide_eq_true_eq];exact he.symm
   rw[hd]at hE
   generalize l[k]=pc at *
   obtain⟨px,py⟩:=pc
   simp only at d0 d1 hE
   subst hz
   clear hc q0 q1 he hd hkl
   go_wp2_with fail
   go_quiet (fail)
   go_wp2_with fail
   go_ret
   exact⟨rfl,(X1.out.trans XR.out).drewN _⟩
  have hd:decide ((qx,qy)=(l[k].1,l[k].2))=false:=by rw[decide_eq_false_iff_not];exact fun h=>he h.symm
  rw[hd]at hE
  have HNX:=aA (fun(j:Nat) (hj:j<l.length) (h:j<k+1)=>(show l[j]≠(qx,qy) from by
   by_cases e:j=k
   ·subst e;exact he
   exact HNO.out j hj (by omega)))
  generalize l[k]=pc at *
  obtain⟨px,py⟩:=pc
  simp only at d0 d1 hE
  clear hc q0 q1 he hd hkl
  go_wp2_with fail
  go_quiet (fail)
  go_wp2_with fail
  go_roundw
  case rel=>exact⟨k+1,by omega,by go_num,HNX.out,by exact XR.out.drewN _⟩
  simp[intOf];omega
 obtain rfl:n=k:=by omega
 have hz:=HG2.out (fun j hj=>HNO.out j hj (by rw[←HN.out];exact hj))
 subst hz
 go_wp2_with fail
 go_ret
 exact⟨rfl,X1.out.trans XR.out⟩
theorem RowsAt.own {w:World} {base n c:Nat} {a:Option Addr} {ll:List (List Int)} (h:RowsAt w base (.slice a n c) ll) (h0:0<ll.length):
  ∃b off,a=some ⟨b,off,none⟩∧b<w.heap.size∧ ∀k (h:k<ll.length),∃sa sc,w.cell? ⟨b,off+k,none⟩=some (.slice sa ll[k].length sc)∧Own u64E w base 38 (.slice sa ll[k].length sc) ll[k]:=by
 obtain⟨ss,h1,h2,h3⟩:=h
 rcases h1.2 with⟨_,hz⟩|⟨g,cap,cur,hv,_⟩
 ·omega
 injection hv with ha hb hc
 subst ha
 have hrd:=Reads.cells h1.reads
 refine⟨g,0,rfl,hrd.1,fun k hk=> ?_⟩
 have hks:k<ss.length:=by omega
 have hown:=h3 k ss[k] ll[k] (zG hks) (zG hk)
 have hcell:=hrd.2.2 k ss[k] (zG hks) 0 (.slice ss[k].1 ss[k].2.1 ss[k].2.2) rfl
 have hru:=Reads.rowU hown.reads
 refine⟨ss[k].1,ss[k].2.2,?_,by rw[←hru.1];exact hown⟩
 rw[←hru.1]
 simpa [iG] using hcell
def xX (w:World) (W H s:Int) (l:List Int) (f t a:aB) (e:Ending) (w':World):Prop:=
 ∃va sb sc,e= .returned (.tuple #[va, .slice sb (inC W H s (aD W H s l) f t (ofN W s a.1 a.2)).length sc])∧Ext w w'∧Own cellE w' w.heap.size 28 va (inC W H s (aD W H s l) f t (ofN W s a.1 a.2))∧Own u64E w' w.heap.size 38 (.slice sb (inC W H s (aD W H s l) f t (ofN W s a.1 a.2)).length sc) ((inC W H s (aD W H s l) f t (ofN W s a.1 a.2)).map (cA W H s l a))
def mQ (W s:Int) (f t:aB) (id:Int) (k:Nat):List aB:=([f,t].take k).filter fun c=>decide (ofN W s c.1 c.2=id)
theorem aKc {W s:Int} {f t:aB} {id:Int} {c:aB}:c∈mQ W s f t id 2↔(c=f∧ofN W s f.1 f.2=id)∨(c=t∧ofN W s t.1 t.2=id):=by
 unfold mQ
 simp only[List.take_succ_cons,List.take_zero,List.mem_filter,List.mem_cons,List.not_mem_nil,or_false,decide_eq_true_eq]
 constructor
 ·rintro⟨rfl|rfl,h⟩
  ·exact .inl ⟨rfl,h⟩
  exact .inr ⟨rfl,h⟩
 rintro(⟨rfl,h⟩|⟨rfl,h⟩)
 ·exact⟨.inl rfl,h⟩
 exact⟨.inr rfl,h⟩
theorem aI9 {W s:Int} {f t:aB} {id:Int} {k:Nat} {c:aB} (h:[f,t][k]? =some c):mQ W s f t id (k+1)=mQ W s f t id k++if ofN W s c.1 c.2=id then[c] else[]:=by
 unfold mQ
 rw[List.take_add_one,h,List.filter_append]
 congr 1
 by_cases e:ofN W s c.1 c.2=id
 ·rw[if_pos e];simp[e]
 rw[if_neg e];simp[e]
theorem aAu (W s:Int) (f t:aB) (id:Int) (k:Nat):(mQ W s f t id k).length≤2:=by
 unfold mQ
 exact Nat.le_trans (List.length_filter_le _ _) (by rw[List.length_take];simp;omega)
section
variable {w:World} {lb:Nat} {p:Spot} {R:Nat→Prop} {W H s:Int} {l:List Int} {fa:Option Addr} {fc:Nat} {ga:Option Addr} {gc:Nat} {f t:aB}
set_option maxRecDepth 100000 in
set_option maxHeartbeats 2000000 in
theorem aF4 (h:HLand w lb p R W H s l fa fc ga gc f t) {a:aB} (ha:inB W H a.1 a.2=true):
  Calls Tryz.prog 100 #[.pointer (some ⟨lb,0,none⟩), .agg #[.int .i64 a.1, .int .i64 a.2]] w (xX w W H s l f t a):=by
 have g:=h.good
 have hid:=iF g.right ha
 have HG:=aA g
 have HID:=aA hid
 have HH:=aA h
 have HOF:=aA (fun(c:aB) (hc:inB W H c.1 c.2=true) (w':World)=>lC W H s c.1 c.2 w' g.right hc)
 obtain⟨N,hN⟩: ∃N:Nat,ofN W s a.1 a.2=(N:Int):=⟨(ofN W s a.1 a.2).toNat,by omega⟩
 have HTB:=aA (fun(w':World) (x:Ext w w')=>aC2 (h.world.ext x) N (by omega))
 have HTL:=aA (pI (l:=l) g hid)
 have htA:dK W H s l (ofN W s a.1 a.2)=(bR W H s l (ofN W s a.1 a.2),(bR W H s l (ofN W s a.1 a.2)).map (fS (g.box hid) (bR W H s l (ofN W s a.1 a.2)))):=rD (g.box hid) _
 have HT1:=aA (show(dK W H s l (ofN W s a.1 a.2)).1=bR W H s l (ofN W s a.1 a.2) by rw[htA])
 have HT2:=aA (show ∀i:Nat,(bR W H s l (ofN W s a.1 a.2))[i]? =some a→(dK W H s l (ofN W s a.1 a.2)).2[i]? =some ((bR W H s l (ofN W s a.1 a.2)).map (cA W H s l a)) from fun i e=>by
  rw[htA]
  simp only[List.getElem?_map,e,Option.map_some]
  rw[yO])
 have HTO:Hid (∀(w':World),Ext w w'→ ∀(ca:Option Addr) (cc:Nat),RowC w' ca (inC W H s (aD W H s l) f t (ofN W s a.1 a.2))→Calls Tryz.prog 154 #[.agg #[.int .i64 W, .int .i64 H, .slice fa l.length fc], .agg #[.int .i64 W, .int .i64 H, .int .i64 s], .int .i64 (ofN W s a.1 a.2), .agg #[.slice ca (inC W H s (aD W H s l) f t (ofN W s a.1 a.2)).length cc, .slice none 0 0], .agg #[.int .i64 a.1, .int .i64 a.2]] w' fun e w''=> ∃sa sn sc,e= .returned (.tuple #[.slice sa sn sc, .int .i64 0])∧Ext w' w''∧Own u64E w'' w.heap.size 38 (.slice sa sn sc) ((inC W H s (aD W H s l) f t (ofN W s a.1 a.2)).map (cA W H s l a))):=aA (fun w' x ca cc hc=>(aMb (w:=w') (PW:=W) (PH:=H) (s:=s) (id:=ofN W s a.1 a.2) (p:=a) fc cc none 0 0 (h.row.ext x) hc (by have:=uQ g hid (f:=f) (t:=t);omega) (fun q hq=>by
   obtain⟨⟨h1,_⟩,_⟩:=(oD (checkE_ok.1 g.ok).1).1 hq
   have:=inB_true.1 h1
   unfold InI
   omega) (by
   unfold toE
   rw[if_pos (aMd g hid)]
   refine lookE_ok.2 ⟨(g.box hid).may,(g.box hid).len,(g.box hid).fits,?_⟩
   rw[←iN g.right hid a]
   unfold fZ
   rw[ha]
   simp) (g.box hid)).mono (by
   rintro e w'' ⟨⟨sa,sn,sc⟩,h1,h2,h3⟩
   rw[yO]at h3
   exact⟨sa,sn,sc,h1,h2,h3.lower x.size⟩))
 have B:=aA h.blk
 unfold eJ at B
 obtain⟨n,hn⟩: ∃z,l.length=z:=⟨_,rfl⟩
 obtain⟨m,hm⟩: ∃z,(aD W H s l).length=z:=⟨_,rfl⟩
 rw[hn,hm]at B
 rw[hn]at HTO
 obtain⟨ax,ay⟩:=a
 obtain⟨fx,fy⟩:=f
 obtain⟨tx,ty⟩:=t
 obtain⟨pb,hpb⟩: ∃z,p.b=z:=⟨_,rfl⟩
 rw[hpb]at B HTB
 simp only at *
 have HINF:=aA h.inF
 have HINT:=aA h.inT
 have HINC:=aA (fun(L:List aB) (hs:L.Pairwise ltC) (hm: ∀c,c∈L↔c∈bR W H s l (ofN W s ax ay)∨(c=(fx,fy)∧ofN W s fx fy=ofN W s ax ay)∨(c=(tx,ty)∧ofN W s tx ty=ofN W s ax ay))=>aMc g hid h.inF h.inT hs hm)
 have HEQ:=aA (fun(hl:(inC W H s (aD W H s l) (fx,fy) (tx,ty) (ofN W s ax ay)).length=(bR W H s l (ofN W s ax ay)).length)=>aM6 g hid hl)
 have HCL:=aA (uQ g hid (f:=(fx,fy)) (t:=(tx,ty)))
 have HAI:=aA ha
 clear h hid htA hn hm hpb ha
 clear g
 unfold xX
 simp only
 rw[hN]
 simp only[hN]at HTL HT1 HT2 HTO HINC HEQ HCL HID
 obtain⟨K,hK⟩: ∃z,bR W H s l (N:Int)=z:=⟨_,rfl⟩
 obtain⟨C,hC⟩: ∃z,inC W H s (aD W H s l) (fx,fy) (tx,ty) (N:Int)=z:=⟨_,rfl⟩
 obtain⟨D,hD⟩: ∃z,cA W H s l (ax,ay)=z:=⟨_,rfl⟩
 obtain⟨tb,htb⟩: ∃z,dK W H s l (N:Int)=z:=⟨_,rfl⟩
 rw[hK]at HINC HEQ HT1 HT2
 rw[hC]at HTO HINC HEQ HCL⊢
 rw[hD]at HT2 HTO⊢
 rw[htb]at HTB HTL HT1 HT2
 obtain⟨u,hu⟩: ∃z,K.length=z:=⟨_,rfl⟩
 have LK:=aA hu
 obtain⟨v5,hv5⟩: ∃z,tb.2.length=z:=⟨_,rfl⟩
 have LV:=aA hv5
 have hu256:u≤256:=by rw[←hu,←HT1.out];exact HTL.out.1
 have HNB:=aA hN
 clear hK hC hD htb hu hv5 hN
 go_enter Tryz.func100,Tryz.ntmps100
 go_upto_region 1 with(fail)
 obtain⟨w1,hw1⟩: ∃z,z=w.alloc (.cells #[.int .i64 ax, .int .i64 ay] 28):=⟨_,rfl⟩
 have X1:=aA (show Ext w w1 by rw[hw1];exact(Ext.refl _).alloc _)
 have A1:=aA (show Blk w1 w.heap.size 28 #[.int .i64 ax, .int .i64 ay] by rw[hw1];exact Blk.new_ rfl)
 have B1:=aA (B.out.ext X1.out)
 rw[←hw1]
 obtain⟨ab,hab⟩: ∃z,w.heap.size=z:=⟨_,rfl⟩
 rw[hab]at A1⊢
 clear hw1 hab
 have c0:=A1.out.at 0 rfl;have c1:=A1.out.at 1 rfl;have cz:=A1.out.lt
 have b0:=B1.out.at 0 rfl;have b1:=B1.out.at 1 rfl;have b2:=B1.out.at 2 rfl;have b3:=B1.out.at 3 rfl;have b4:=B1.out.at 4 rfl;have b5:=B1.out.at 5 rfl;have b6:=B1.out.at 6 rfl;have b7:=B1.out.at 7 rfl;have b8:=B1.out.at 8 rfl;have b9:=B1.out.at 9 rfl;have b10:=B1.out.at 10 rfl;have b11:=B1.out.at 11 rfl;have bz:=B1.out.lt
 refine aS w1 [(0,true),(1,true),(2,true),(3,true),(4,true),(5,false),(6,true),(7,true),(8,true),(9,true),(10,true)] (fun hK0=> ?_)
 iterate 5 (refine SeqH.fr1 ?_;try simp only[zz])
 (refine aP ?_;intro K hK;go_simp;refine(HOF.out (ax,ay) HAI.out _).mono ?_;rintro e w2 ⟨rfl,x2⟩;rw[HNB.out];go_wp2_with fail;refine hK.out _ _ (aI z_x) (fun hK0=> ?_);clear hK K;try simp only[zz])
 iterate 5 (refine SeqH.fr1 ?_;try simp only[zz])
 refine SeqH.done ?_
 have XE:=aA hK0.2
 have X2:=aA (X1.out.trans XE.out)
 have A2:=aA (A1.out.ext XE.out)
 have B2:=aA (B.out.ext X2.out)
 clear hK0 x2 c0 c1 cz b0 b1 b2 b3 b4 b5 b6 b7 b8 b9 b10 b11 bz A1 B1 X1 XE
 have b0:=B2.out.at 0 rfl;have b1:=B2.out.at 1 rfl;have b2:=B2.out.at 2 rfl;have b3:=B2.out.at 3 rfl;have b4:=B2.out.at 4 rfl;have b5:=B2.out.at 5 rfl;have b6:=B2.out.at 6 rfl;have b7:=B2.out.at 7 rfl;have b8:=B2.out.at 8 rfl;have b9:=B2.out.at 9 rfl;have b10:=B2.out.at 10 rfl;have b11:=B2.out.at 11 rfl;have bz:=B2.out.lt
 go_wp2_with fail
 refine(HTB.out _ X2.out).mono ?_
 rintro e w3 ⟨v1,v2,rfl,x3,oc,or⟩
 obtain⟨a1,c1,rfl⟩:=oc.slice
 obtain⟨r1,d1,rfl,ru⟩:=iR or
 rw[HT1.out]at oc⊢
 rw[LV.out]
 rw[LK.out]at oc⊢
 have OT3:=aA or
 have OC3:=aA oc
 have X3:=aA (X2.out.trans x3)
 have A3:=aA (A2.out.ext x3)
 have z3:=x3.size
 clear oc or ru x3 b0 b1 b2 b3 b4 b5 b6 b7 b8 b9 b10 b11 bz B2 A2
 go_upto_region 3 with(fail)
 obtain⟨w4,hw4⟩: ∃z,z=w3.alloc (.cells #[.slice a1 u c1, .slice r1 v5 d1] 166):=⟨_,rfl⟩
 have x4:Ext w3 w4:=by rw[hw4];exact(Ext.refl _).alloc _
 have T4:=aA (show Blk w4 w3.heap.size 166 #[.slice a1 u c1, .slice r1 v5 d1] by rw[hw4];exact Blk.new_ rfl)
 have X4:=aA (X3.out.trans x4)
 have A4:=aA (A3.out.ext x4)
 have OC4:=aA (OC3.out.ext x4)
 rw[←hw4]
 obtain⟨tbk,htbk⟩: ∃z,w3.heap.size=z:=⟨_,rfl⟩
 rw[htbk]at T4⊢
 have B4:=aA (B.out.ext X4.out)
 have HCN:=lJ (w:=w4) (l:=K) c1 (by rw[LK.out];omega) (by have h:=OC4.out;rw[←LK.out]at h;exact(Reads.rowC h.reads).2)
 rw[LK.out]at HCN
 have HCN:=aA HCN
 clear hw4 htbk A3 OC3
 have t0:=T4.out.at 0 rfl;have t1:=T4.out.at 1 rfl;have tz:=T4.out.lt
 have b0:=B4.out.at 0 rfl;have b1:=B4.out.at 1 rfl;have b2:=B4.out.at 2 rfl;have b3:=B4.out.at 3 rfl;have b4:=B4.out.at 4 rfl;have b5:=B4.out.at 5 rfl;have b6:=B4.out.at 6 rfl;have b7:=B4.out.at 7 rfl;have b8:=B4.out.at 8 rfl;have b9:=B4.out.at 9 rfl;have b10:=B4.out.at 10 rfl;have b11:=B4.out.at 11 rfl;have bz:=B4.out.lt
 go_wp2_with fail
 refine(HCN.out).mono ?_
 rintro e w5 ⟨v,rfl,x5,o5⟩
 obtain⟨a5,c5,rfl⟩:=o5.slice
 rw[LK.out]at o5⊢
 have O5:=aA o5
 have B5:=aA (B4.out.ext x5)
 have z5:=x5.size
 clear t0 t1 tz b0 b1 b2 b3 b4 b5 b6 b7 b8 b9 b10 b11 bz o5 HCN B4
 have b0:=B5.out.at 0 rfl;have b1:=B5.out.at 1 rfl;have b2:=B5.out.at 2 rfl;have b3:=B5.out.at 3 rfl;have b4:=B5.out.at 4 rfl;have b5:=B5.out.at 5 rfl;have b6:=B5.out.at 6 rfl;have b7:=B5.out.at 7 rfl;have b8:=B5.out.at 8 rfl;have b9:=B5.out.at 9 rfl;have b10:=B5.out.at 10 rfl;have b11:=B5.out.at 11 rfl;have bz:=B5.out.lt
 go_upto_region 4 with(fail)
 refine aS w5 [(0,true),(1,true),(2,true),(3,true),(4,true),(5,true),(6,true),(7,true),(10,true),(8,false),(9,true)] (fun hK0=> ?_)
 iterate 9 (refine SeqH.fr1 ?_;try simp only[zz])
 (refine aP ?_;intro K hK;go_simp;refine hK.out _ _ (aI z_x) (fun hK0=> ?_);clear hK K;try simp only[zz])
 iterate 1 (refine SeqH.fr1 ?_;try simp only[zz])
 refine SeqH.done ?_
 obtain⟨w6,hw6⟩: ∃z,z=(w5.alloc (.cells #[.int .i64 fx, .int .i64 fy, .int .i64 tx, .int .i64 ty] 28)).drew:=⟨_,rfl⟩
 have x6:Ext w5 w6:=by rw[hw6];exact((Ext.refl _).alloc _).drew
 have L6:=aA (show Blk w6 w5.heap.size 28 #[.int .i64 fx, .int .i64 fy, .int .i64 tx, .int .i64 ty] by rw[hw6];exact Blk.drew (Blk.new_ rfl))
 have O6:=aA (O5.out.ext x6)
 have X46:=aA (x5.trans x6)
 rw[←hw6]
 obtain⟨lt,hlt0⟩: ∃z,w5.heap.size=z:=⟨_,rfl⟩
 have hlt4:w4.heap.size≤lt:=by omega
 have hnl: ∀q,(Value.slice a5 u c5).ownBlock=some q→q≠lt:=fun q hq e=>by have:=(aF O5.out hq).2;omega
 rw[hlt0]at L6⊢
 clear hK0 hw6 x6 x5 hlt0 b0 b1 b2 b3 b4 b5 b6 b7 b8 b9 b10 b11 bz B5 O5
 go_wp2_with fail
 go_loopw [10,49] (fun ov iv wr=> ∃k:Nat,k≤2∧iv= .int .i64 (k:Int)∧Own cellE wr w4.heap.size 28 ov (K++mQ W s (fx,fy) (tx,ty) (N:Int) k)∧Blk wr lt 28 #[.int .i64 fx, .int .i64 fy, .int .i64 tx, .int .i64 ty]∧(∀q,ov.ownBlock=some q→q≠lt)∧Ext w4 wr) (fun _ iv _=>2-(intOf iv).toNat)
 case atStart=>exact⟨0,Nat.zero_le _,rfl,by have h:=O6.out;simpa [mQ] using h,L6.out,hnl,X46.out⟩
 obtain⟨k,hk,rfl,ho,hb,hq,hx⟩:=hrel
 have OR:=aA ho
 have LR:=aA hb
 have QR:=aA hq
 have XR:=aA hx
 clear ho hb hq hx
 by_cases hlt:k<2
 ·obtain⟨cx,cy,hck,hin,d0,d1⟩: ∃cx cy,[(fx,fy),(tx,ty)][k]? =some (cx,cy)∧inB W H cx cy=true∧wr.cell? ⟨lt,k*2,none⟩=some (.int .i64 cx)∧wr.cell? ⟨lt,k*2+1,none⟩=some (.int .i64 cy):=by
   rcases (by omega:k=0∨k=1) with rfl|rfl
   ·exact⟨fx,fy,rfl,HINF.out,LR.out.at 0 rfl,LR.out.at 1 rfl⟩
   exact⟨tx,ty,rfl,HINT.out,LR.out.at 2 rfl,LR.out.at 3 rfl⟩
  have HTN:=aA (aI9 (W:=W) (s:=s) (id:=(N:Int)) hck)
  have HTWL:=aA (aAu W s (fx,fy) (tx,ty) (N:Int) k)
  have hltz:=LR.out.lt
  have jk:(k:Int)<2:=by omega
  simp only at HTN
  clear hck
  obtain⟨oa,oc',hov⟩:=OR.out.slice
  subst hov
  obtain⟨L0,hL0⟩: ∃z,K++mQ W s (fx,fy) (tx,ty) (N:Int) k=z:=⟨_,rfl⟩
  have HL0:=aA hL0
  have hyb:L0.length≤258:=by rw[←hL0,List.length_append,LK.out];have:=HTWL.out;omega
  rw[hL0]at OR QR⊢
  obtain⟨y,hy⟩: ∃z,L0.length=z:=⟨_,rfl⟩
  have HY:=aA hy
  rw[hy]at OR QR hyb⊢
  clear hL0 hy
  go_upto_region 7 with(fail)
  obtain⟨wb,hwb⟩: ∃z,z=wr.alloc (.cells #[.int .i64 cx, .int .i64 cy] 28):=⟨_,rfl⟩
  have xb:Ext wr wb:=by rw[hwb];exact(Ext.refl _).alloc _
  have CB:=aA (show Blk wb wr.heap.size 28 #[.int .i64 cx, .int .i64 cy] by rw[hwb];exact Blk.new_ rfl)
  have XB:=aA (XR.out.trans xb)
  have BB:=aA (B.out.ext (X4.out.trans XB.out))
  have OB:=aA (OR.out.ext xb)
  have LB:=aA (LR.out.ext xb)
  rw[←hwb]
  clear hwb d0 d1
  have c0:=CB.out.at 0 rfl;have c1:=CB.out.at 1 rfl;have cz:=CB.out.lt
  have b0:=BB.out.at 0 rfl;have b1:=BB.out.at 1 rfl;have b2:=BB.out.at 2 rfl;have b3:=BB.out.at 3 rfl;have b4:=BB.out.at 4 rfl;have b5:=BB.out.at 5 rfl;have b6:=BB.out.at 6 rfl;have b7:=BB.out.at 7 rfl;have b8:=BB.out.at 8 rfl;have b9:=BB.out.at 9 rfl;have b10:=BB.out.at 10 rfl;have b11:=BB.out.at 11 rfl;have bz:=BB.out.lt
  refine aS wb [(0,true),(1,true),(2,true),(3,true),(4,true),(5,false),(6,true),(7,true),(8,true),(9,true),(10,true)] (fun hK0=> ?_)
  iterate 5 (refine SeqH.fr1 ?_;try simp only[zz])
  (refine aP ?_;intro K hK;go_simp;refine(HOF.out (cx,cy) hin _).mono ?_;rintro e w7 ⟨rfl,x7⟩;go_wp2_with fail;refine hK.out _ _ (aI z_x) (fun hK0=> ?_);clear hK K;try simp only[zz])
  iterate 5 (refine SeqH.fr1 ?_;try simp only[zz])
  refine SeqH.done ?_
  have XE:=aA hK0.2
  have CE:=aA (CB.out.ext XE.out)
  have OE:=aA (OB.out.ext XE.out)
  have LE:=aA (LB.out.ext XE.out)
  have XF:=aA (XB.out.trans XE.out)
  have zE:=XE.out.size
  have zb:=xb.size
  clear hK0 x7 c0 c1 cz b0 b1 b2 b3 b4 b5 b6 b7 b8 b9 b10 b11 bz CB OB LB XB BB xb
  have c0:=CE.out.at 0 rfl;have c1:=CE.out.at 1 rfl;have cz:=CE.out.lt
  by_cases he:ofN W s cx cy=(N:Int)
  ·rw[if_pos he]at HTN
   have hzw:=XF.out.size
   go_wp2_with (at_builtin;refine dD cellE T_cells rfl _ _ rfl w4.heap.size _ _ L0 rfl OE.out (cx,cy) _ _ rfl _ rfl rfl (by rw[HY.out];omega) (by rw[HY.out];omega) (by omega) ?_;intro g9 c9 w9 o9 t9 l9;have O9:=aA o9;have T9:=aA t9;have L9:=aA l9;clear o9 t9 l9)
   go_roundw
   case rel=>exact⟨k+1,by omega,by go_num,by rw[HTN.out,←List.append_assoc,HL0.out];exact O9.out,LE.out.touch T9.out (fun h=>QR.out _ h rfl),fun q hq e=>by
    have e2:=rB hq
    subst e2
    rcases L9.out with h|h
    ·exact QR.out _ h e
    have:=LE.out.lt;omega,XF.out.of_below (T9.out.to_below XF.out.size (fun q h=>(aF OE.out h).1)) (Nat.le_refl _)⟩
   simp[intOf];omega
  rw[if_neg he,List.append_nil]at HTN
  go_wp2_with fail
  go_roundw
  case rel=>exact⟨k+1,by omega,by go_num,by rw[HTN.out,HL0.out];exact OE.out,LE.out,QR.out,XF.out⟩
  simp[intOf];omega
 obtain rfl:k=2:=by omega
 have HORD:=aA (aH8 OR.out (by rw[List.length_append,LK.out];have:=aAu W s (fx,fy) (tx,ty) (N:Int) 2;omega))
 obtain⟨oa,oc',hov⟩:=OR.out.slice
 subst hov
 generalize (K++mQ W s (fx,fy) (tx,ty) (N:Int) 2).length=y at *
 go_wp2_with fail
 refine(HORD.out).mono ?_
 rintro e w8 ⟨v',L',rfl,o8,hs,hm2,t8⟩
 have hL:L'=C:=HINC.out L' hs (fun c=>by rw[hm2,List.mem_append,aKc])
 subst hL
 obtain⟨a8,c8,rfl⟩:=o8.slice
 have X8:=aA (XR.out.of_below (t8.to_below (B:=w4.heap.size) XR.out.size (fun q h=>(aF OR.out h).1)) (Nat.le_refl _))
 have O8:=aA o8
 have T8:=aA (T4.out.ext X8.out)
 have A8:=aA (A4.out.ext X8.out)
 have OC8:=aA (OC4.out.ext X8.out)
 have z4:=X4.out.size
 have HRC:RowC w8 a1 K:=by have h:=OC8.out;rw[←LK.out]at h;exact(Reads.rowC h.reads).2
 have HIX:=aA (aE2 (w:=w8) c1 LK.out (by omega) HRC (ax,ay))
 obtain⟨y8,hy8⟩: ∃z,L'.length=z:=⟨_,rfl⟩
 have HY8:=aA hy8
 rw[hy8]at O8⊢
 have hy258:y8≤258:=by rw[←hy8];exact HCL.out
 clear hy8 hs hm2 t8 o8 HRC HORD
 simp only at HIX
 have t0:=T8.out.at 0 rfl;have t1:=T8.out.at 1 rfl;have tz:=T8.out.lt
 have c0:=A8.out.at 0 rfl;have c1:=A8.out.at 1 rfl;have cz:=A8.out.lt
 go_wp2_with fail
 refine(HIX.out).mono ?_
 rintro e w9 ⟨rfl,x9⟩
 have O9:=aA (O8.out.ext x9)
 have T9:=aA (T8.out.ext x9)
 have A9:=aA (A8.out.ext x9)
 have X9:=aA (X8.out.trans x9)
 have OT9:=aA (OT3.out.ext (x4.trans X9.out))
 have z8:=X8.out.size
 have z9:=x9.size
 clear t0 t1 tz c0 c1 cz x9 T8 A8 X8 O8 HIX
 have t0:=T9.out.at 0 rfl;have t1:=T9.out.at 1 rfl;have tz:=T9.out.lt
 have c0:=A9.out.at 0 rfl;have c1:=A9.out.at 1 rfl;have cz:=A9.out.lt
 have HO10:Hid (∀(w':World),Ext w9 w'→Ext w w'∧Own cellE w' w.heap.size 28 (.slice a8 y8 c8) L'):=aA (fun w' x=>⟨X4.out.trans (X9.out.trans x),(O9.out.ext x).lower z4⟩)
 have HTOr:Hid (∀w',Ext w9 w'→Calls Tryz.prog 154 #[.agg #[.int .i64 W, .int .i64 H, .slice fa n fc], .agg #[.int .i64 W, .int .i64 H, .int .i64 s], .int .i64 (N:Int), .agg #[.slice a8 y8 c8, .slice none 0 0], .agg #[.int .i64 ax, .int .i64 ay]] w' fun e w''=> ∃sa sn sc,e= .returned (.tuple #[.slice sa sn sc, .int .i64 0])∧Ext w' w''∧Own u64E w'' w.heap.size 38 (.slice sa sn sc) (L'.map D)):=aA (fun w' x=>by
  have h:=HTO.out w' (X4.out.trans (X9.out.trans x)) a8 c8 (by have h:=O9.out.ext x;rw[←HY8.out]at h;exact(Reads.rowC h.reads).2)
  rw[HY8.out]at h
  exact h)
 have B9:=aA (B.out.ext (X4.out.trans X9.out))
 rcases hf:K.findIdx? (fun c=>decide (c=(ax,ay))) with _|j
 ·have hz:mK (fun c=>decide (c=(ax,ay))) K= -1:=by unfold mK;rw[hf]
  rw[hz]
  clear hf hz
  have b0:=B9.out.at 0 rfl;have b1:=B9.out.at 1 rfl;have b2:=B9.out.at 2 rfl;have b3:=B9.out.at 3 rfl;have b4:=B9.out.at 4 rfl;have b5:=B9.out.at 5 rfl;have b6:=B9.out.at 6 rfl;have b7:=B9.out.at 7 rfl;have b8:=B9.out.at 8 rfl;have b9:=B9.out.at 9 rfl;have b10:=B9.out.at 10 rfl;have b11:=B9.out.at 11 rfl;have bz:=B9.out.lt
  go_wp2_with fail
  refine aS w9 [(0,true),(1,true),(2,true),(3,true),(4,true),(5,true),(6,true),(7,true),(8,true),(9,true),(10,true),(11,true),(12,false),(13,true),(14,true),(15,true),(16,true),(17,true)] (fun hK0=> ?_)
  iterate 12 (refine SeqH.fr1 ?_;try simp only[zz])
  (refine aP ?_;intro K hK;go_simp;refine(HTOr.out _ z_x).mono ?_;rintro e w10 ⟨sa,sn,sc,rfl,x10,o10⟩;obtain⟨hsn,hru⟩:=Reads.rowU o10.reads;rw[List.length_map,HY8.out]at hsn;rw[hsn]at o10⊢;have RU:=aA o10;clear o10 hru hsn;go_wp2_with fail;refine hK.out _ _ (aI z_x) (fun hK0=> ?_);clear hK K;try simp only[zz])
  iterate 5 (refine SeqH.fr1 ?_;try simp only[zz])
  refine SeqH.done ?_
  have XE:=aA hK0.2
  clear hK0
  go_wp2_with fail
  exact bodyPost_ret (v:= .tuple #[.slice a8 y8 c8, .slice sa y8 sc]) (by simp[results,Tryz.results100,go_sem, *]) rfl ⟨_,sa,sc,by rw[HY8.out],(HO10.out _ XE.out).1,(HO10.out _ XE.out).2,by rw[HY8.out];exact RU.out⟩
 obtain⟨hj,hp,hq9⟩:=List.findIdx?_eq_some_iff_getElem.1 hf
 clear hq9
 have hz:mK (fun c=>decide (c=(ax,ay))) K=(j:Int):=by unfold mK;rw[hf]
 have hkj:K[j]? =some (ax,ay):=by rw[zG hj,of_decide_eq_true hp]
 have hrow:=HT2.out j hkj
 rw[hz]
 have hj0:(0:Int)≤(j:Int):=by omega
 have hj1:decide ((0:Int)≤(j:Int))=true:=by simp
 by_cases hlen:y8=u
 ·have hLK:L'=K:=HEQ.out (by rw[HY8.out,LK.out];exact hlen)
  subst hlen
  have hd:decide ((y8:Int)=(y8:Int))=true:=by simp
  obtain⟨hjl,hrj⟩:=zJ hrow
  obtain⟨rb,ro,hre,hrb,hrc⟩:=(RowsAt.own OT9.out) (by omega)
  subst hre
  obtain⟨sa,sc,rd0,rru⟩:=hrc j hjl
  rw[hrj]at rd0 rru
  rw[List.length_map,LK.out]at rd0 rru
  rw[LV.out]at hjl
  have RU:=aA (rru.lower X2.out.size)
  have jv:(j:Int)<(v5:Int):=by omega
  clear hf hz hp hkj hrow hrc rru hrj hj
  go_wp2_with fail
  refine aS w9 [(0,true),(1,true),(2,true),(3,true),(4,true),(5,true),(6,true),(7,true)] (fun hK0=> ?_)
  iterate 8 (refine SeqH.fr1 ?_;try simp only[zz])
  refine SeqH.done ?_
  have XE:=aA hK0.2
  clear hK0
  go_wp2_with fail
  exact bodyPost_ret (v:= .tuple #[.slice a8 y8 c8, .slice sa y8 sc]) (by simp[results,Tryz.results100,go_sem, *]) rfl ⟨_,sa,sc,by rw[HY8.out],(HO10.out _ XE.out).1,(HO10.out _ XE.out).2,by have h:=RU.out.ext XE.out;rw[HY8.out,hLK];exact h⟩
 have hd:decide ((y8:Int)=(u:Int))=false:=by simp;omega
 have hd2: ¬(y8:Int)=(u:Int):=by omega
 clear hf hz hp hkj hrow hj
 have b0:=B9.out.at 0 rfl;have b1:=B9.out.at 1 rfl;have b2:=B9.out.at 2 rfl;have b3:=B9.out.at 3 rfl;have b4:=B9.out.at 4 rfl;have b5:=B9.out.at 5 rfl;have b6:=B9.out.at 6 rfl;have b7:=B9.out.at 7 rfl;have b8:=B9.out.at 8 rfl;have b9:=B9.out.at 9 rfl;have b10:=B9.out.at 10 rfl;have b11:=B9.out.at 11 rfl;have bz:=B9.out.lt
 go_wp2_with fail
 refine aS w9 [(0,true),(1,true),(2,true),(3,true),(4,true),(5,true),(6,true),(7,true),(8,true),(9,true),(10,true),(11,true),(12,false),(13,true),(14,true),(15,true),(16,true),(17,true)] (fun hK0=> ?_)
 iterate 12 (refine SeqH.fr1 ?_;try simp only[zz])
 (refine aP ?_;intro K hK;go_simp;refine(HTOr.out _ z_x).mono ?_;rintro e w10 ⟨sa,sn,sc,rfl,x10,o10⟩;obtain⟨hsn,hru⟩:=Reads.rowU o10.reads;rw[List.length_map,HY8.out]at hsn;rw[hsn]at o10⊢;have RU:=aA o10;clear o10 hru hsn;go_wp2_with fail;refine hK.out _ _ (aI z_x) (fun hK0=> ?_);clear hK K;try simp only[zz])
 iterate 5 (refine SeqH.fr1 ?_;try simp only[zz])
 refine SeqH.done ?_
 have XE:=aA hK0.2
 clear hK0
 go_wp2_with fail
 exact bodyPost_ret (v:= .tuple #[.slice a8 y8 c8, .slice sa y8 sc]) (by simp[results,Tryz.results100,go_sem, *]) rfl ⟨_,sa,sc,by rw[HY8.out],(HO10.out _ XE.out).1,(HO10.out _ XE.out).2,by rw[HY8.out];exact RU.out⟩
end
end Go.Proofs.YtaellcgglldjaaaGreat

