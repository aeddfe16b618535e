/- Part of a proof: ArgF ArgH LawHS. -/
import Derived.Test.YtaellcgglldjaaaGreatHq02
import Derived.ProofKit
import Derived.OpenShut
import Derived.ShutString
import Derived.ChangeOld
import Derived.Test.YtaellcgglldjaaaGreatHq03
import Derived.Deep.Slices
import Derived.Test.YtaellcgglldjaaaGreatHq01
import Derived.Test.YtaellcgglldjaaaGreatHq39
import Derived.Test.YtaellcgglldjaaaGreatHq42
import Derived.Test.YtaellcgglldjaaaGreatHq38
import Derived.Test.YtaellcgglldjaaaGreatHq29
set_option linter.all false
set_option linter.unusedVariables false
set_option linter.unusedSimpArgs false
namespace Go.Proofs.YtaellcgglldjaaaGreat
open Go.RowKit Go.ChangeShapes Go.WideShapes Go.ChangeAt
section
variable {H:Type} {enc:TypeId×Value→H} {w:World} {r:Reach} {base b0:Nat} {spare:Nat→Bool} {held:Bool}
theorem aKx {n:Int} (h:(Lit.int .i64 n).wf=true):InI n:=by
 have hmin:IntKind.i64.min= -9223372036854775808:=rfl
 have hmax:IntKind.i64.max=9223372036854775807:=rfl
 simp only[Lit.wf,Bool.and_eq_true,decide_eq_true_eq]at h
 unfold InI;omega
theorem pY {fuel:Nat} {v:Value} {x:DataW H×List MemPlace} (h:DataW.trod enc Tryz.prog w base spare held fuel 3 [v]=some x): ∃n,v= .int .i64 n∧InI n:=by
 obtain⟨n,hc,_,hw⟩:=DataW.trod_int Tryz.underlying3 h
 simp at hc
 exact⟨n,hc,aKx hw⟩
theorem rP {t:TypeId} {f0 f1:Field} {fuel:Nat} {c0 c1:Value} {x:DataW H×List MemPlace} (ht:Tryz.prog.underlying t=some (.struct #[f0,f1])) (e0:f0.type=3∧f0.offset=0) (e1:f1.type=3∧f1.offset=1) (h:DataW.trod enc Tryz.prog w base spare held fuel t [c0,c1]=some x):
  ∃a b,c0= .int .i64 a∧c1= .int .i64 b∧InI a∧InI b:=by
 obtain⟨xs,n,_,_,_,hlen,hf⟩:=DataW.trod_struct ht h
 have hc:Tryz.prog.cellsOf 3=1:=by kernel_rfl
 match xs,hlen with
 |[y0,y1],_=>
  have h0:=hf 0 f0 rfl
  have h1:=hf 1 f1 rfl
  rw[e0.1,e0.2,hc]at h0
  rw[e1.1,e1.2,hc]at h1
  obtain⟨a,rfl,ha⟩:=pY h0
  obtain⟨b,rfl,hb⟩:=pY h1
  exact⟨a,b,rfl,rfl,ha,hb⟩
end
theorem own:ownKnob Tryz.prog.godebug=none:=by kernel_rfl
theorem pX:laidOutB Tryz.prog=true:=by kernel_rfl
section
variable {H:Type} {enc:TypeId×Value→H} {w:World} {r:Reach} {base b0:Nat} {spare:Nat→Bool} {held:Bool}
def aKv (w:World) (W Hh:Int) (a:Option Addr) (l:List Int):Prop:=InI W∧InI Hh∧(l.length:Int)≤9223372036854775807∧Row16 w a l∧cS l
set_option maxRecDepth 100000 in
theorem aAd:Tryz.prog.cellsOf 26=3:=by kernel_rfl
set_option maxRecDepth 100000 in
theorem aEe:Tryz.prog.cellsOf 84=1:=by kernel_rfl
theorem aIj {a:Addr} {len:Nat} {zs:List Int} (hlen:len≤zs.length) (hc: ∀i,i<zs.length→w.cell? (a.add i)=some (.int .u16 (zs.getD i 0))) (hw: ∀n∈zs,(Lit.int .u16 n).wf=true):(zs.take len).length=len∧Row16 w (some a) (zs.take len)∧cS (zs.take len):=by
 have hl:(zs.take len).length=len:=by rw[List.length_take];omega
 refine⟨hl,fun h0=> ?_,fun x hx=> ?_⟩
 ·obtain⟨b,off,spot⟩:=a
  have z0:=hc 0 (by omega)
  have hspot:spot=none:=by simpa [Addr.add] using World.cell?_spot z0
  subst hspot
  have z0':w.cell? ⟨b,off,none⟩=some (.int .u16 (zs.getD 0 0)):=by simpa [Addr.add] using z0
  refine⟨b,off,rfl,World.block_lt_of_cell? w _ z0',fun k hk=> ?_⟩
  have:=hc k (by omega)
  rw[Addr.add_lit]at this
  rw[this]
  have hk':k<zs.length:=by omega
  simp[List.getD_eq_getElem?_getD,hk']
 ·have hmem:x∈zs:=List.mem_of_mem_take hx
  have h:=hw x hmem
  have hmin:IntKind.u16.min=0:=rfl
  have hmax:IntKind.u16.max=65535:=rfl
  simp only[Lit.wf,Bool.and_eq_true,decide_eq_true_eq]at h
  omega
set_option maxRecDepth 100000 in
theorem sL {v:Value} {d:DataW H} {p:List MemPlace} (hv:Value.okWide Tryz.prog w r b0 26 v) (h:DataW.Trod enc Tryz.prog w base spare held 26 v d p):
  ∃W Hh a l c,v= .agg #[.int .i64 W, .int .i64 Hh, .slice a (List.length l) c]∧aKv w W Hh a l:=by
 obtain⟨cs,rfl,hsz⟩:=okWide_struct Tryz.underlying26 hv
 obtain⟨l⟩:=cs
 rw[aAd]at hsz
 match l,hsz with
 |[c0,c1,c2],_=>
  obtain⟨fuel,hf⟩:=h
  obtain⟨xs,n,_,_,_,hlen,hf⟩:=DataW.trod_struct Tryz.underlying26 hf
  match xs,hlen with
  |[y0,y1],_=>
   have h0:=hf 0 _ rfl
   have h1:=hf 1 _ rfl
   obtain⟨a,b,rfl,rfl,ha,hb⟩:=rP (c0:=c0) (c1:=c1) Tryz.underlying23 ⟨rfl,rfl⟩ ⟨rfl,rfl⟩ h0
   have h1':DataW.trod enc Tryz.prog w base spare held n 24 [c2]=some y1:=h1
   rcases open_ints Tryz.underlying24 Tryz.underlying84 aEe h1' with⟨hc,_⟩|⟨ad,len,cap,zs,hc,_,hl,hm,hz,_,hcell,hwz⟩
   ·simp at hc
    subst hc
    exact⟨a,b,none,[],0,rfl,ha,hb,by simp,fun h=>by simp at h,fun x hx=>by simp at hx⟩
   ·simp at hc
    subst hc
    have hle:len≤zs.length:=by rw[hz];split<;>omega
    obtain⟨q1,q2,q3⟩:=aIj hle hcell hwz
    refine⟨a,b,some ad,zs.take len,cap,by rw[q1],ha,hb,?_,q2,q3⟩
    rw[q1];unfold maxLen at hm;omega
end
section
variable {H:Type} {enc:TypeId×Value→H} {P:Program} {w:World} {base:Nat} {spare:Nat→Bool} {held:Bool}
end
section
variable {H:Type} {enc:TypeId×Value→H} {w:World} {r:Reach} {base b0:Nat} {spare:Nat→Bool} {held:Bool}
end
section
variable {H:Type} {enc:TypeId×Value→H} {w:World} {r:Reach} {base b0:Nat} {spare:Nat→Bool} {held:Bool}
end
end Go.Proofs.YtaellcgglldjaaaGreat

namespace Go.Proofs.YtaellcgglldjaaaGreat
open Go.RowKit Go.ChangeShapes Go.WideShapes Go.ChangeAt
section
variable {H:Type} {enc:TypeId×Value→H} {w:World} {r:Reach} {base b0:Nat} {spare:Nat→Bool} {held:Bool}
set_option maxRecDepth 100000 in
theorem aAc:Tryz.prog.cellsOf 30=6:=by kernel_rfl
set_option maxRecDepth 100000 in
theorem sK {v:Value} {d:DataW H} {p:List MemPlace} (hv:Value.okWide Tryz.prog w r b0 30 v) (h:DataW.Trod enc Tryz.prog w base spare held 30 v d p): ∃s x y z u b,v= .agg #[.int .i64 s, .int .i64 x, .int .i64 y, .int .i64 z, .int .i64 u, .int .i64 b]∧InI s∧InI x∧InI y∧InI z∧InI u∧InI b:=by
 obtain⟨cs,rfl,hsz⟩:=okWide_struct Tryz.underlying30 hv
 obtain⟨l⟩:=cs
 rw[aAc]at hsz
 match l,hsz with
 |[c0,c1,c2,c3,c4,c5],_=>
  obtain⟨fuel,hf⟩:=h
  obtain⟨xs,n,_,_,_,hlen,hf⟩:=DataW.trod_struct Tryz.underlying30 hf
  match xs,hlen with
  |[y0,y1,y2,y3],_=>
   obtain⟨s,rfl,hs⟩:=pY (v:=c0) (hf 0 _ rfl)
   obtain⟨a,b,rfl,rfl,ha,hb⟩:=rP (c0:=c1) (c1:=c2) Tryz.underlying28 ⟨rfl,rfl⟩ ⟨rfl,rfl⟩ (hf 1 _ rfl)
   obtain⟨c,e,rfl,rfl,hc,he⟩:=rP (c0:=c3) (c1:=c4) Tryz.underlying28 ⟨rfl,rfl⟩ ⟨rfl,rfl⟩ (hf 2 _ rfl)
   obtain⟨g,rfl,hg⟩:=pY (v:=c5) (hf 3 _ rfl)
   exact⟨s,a,b,c,e,g,rfl,hs,ha,hb,hc,he,hg⟩
end
end Go.Proofs.YtaellcgglldjaaaGreat

namespace Go.Proofs.YtaellcgglldjaaaGreat
open Go.RowKit
set_option maxRecDepth 100000 in
theorem aLp {w:World} (W H:Int) (a:Option Addr) (n c:Nat) (s fx fy tx ty b:Int) (hm:(decide (n≤150)&&decide (fK W H n s=0))=false):
  Calls Tryz.prog 7 #[.agg #[.int .i64 W, .int .i64 H, .slice a n c], .agg #[.int .i64 s, .int .i64 fx, .int .i64 fy, .int .i64 tx, .int .i64 ty, .int .i64 b]] w fun e w'=>e= .returned (.bool true)∧Ext w w':=by
 have HM:=aA (fun(w':World)=>kE W H a n c s fx fy tx ty b w')
 rw[hm]at HM
 clear hm
 go_enter Tryz.func7,Tryz.ntmps7
 go_upto_region 1 with(fail)
 obtain⟨w1,hw1⟩: ∃z,z=(w.alloc (.cells #[.int .i64 W, .int .i64 H, .slice a n c] 26)).alloc (.cells #[.int .i64 s, .int .i64 fx, .int .i64 fy, .int .i64 tx, .int .i64 ty, .int .i64 b] 30):=⟨_,rfl⟩
 have X1:=aA (show Ext w w1 by rw[hw1];exact((Ext.refl _).alloc _).alloc _)
 have F1:=aA (show Blk w1 w.heap.size 26 #[.int .i64 W, .int .i64 H, .slice a n c] by rw[hw1];exact(Blk.new_ rfl).over)
 have Q1:=aA (show Blk w1 (w.heap.size+1) 30 #[.int .i64 s, .int .i64 fx, .int .i64 fy, .int .i64 tx, .int .i64 ty, .int .i64 b] by rw[hw1];exact Blk.new_ (by simp))
 rw[←hw1]
 obtain⟨fb,hfb⟩: ∃z,w.heap.size=z:=⟨_,rfl⟩
 rw[hfb]at F1 Q1⊢
 clear hw1 hfb
 have q0:=Q1.out.at 0 rfl;have q1:=Q1.out.at 1 rfl;have q2:=Q1.out.at 2 rfl;have q3:=Q1.out.at 3 rfl;have q4:=Q1.out.at 4 rfl;have q5:=Q1.out.at 5 rfl;have qz:=Q1.out.lt
 have f0:=F1.out.at 0 rfl;have f1:=F1.out.at 1 rfl;have f2:=F1.out.at 2 rfl;have fz:=F1.out.lt
 go_wp2_with fail
 refine(HM.out _).mono ?_
 rintro e w2 ⟨rfl,x2⟩
 have X2:=aA (X1.out.trans x2)
 clear x2
 go_wp2_with (go_at_call 10;refine(cY _).mono ?_;rintro e wz ⟨rfl,xz⟩;have XZ:=aA (X2.out.trans xz);clear xz)
 go_ret
 exact⟨rfl,XZ.out⟩
set_option maxRecDepth 100000 in
set_option maxHeartbeats 4000000 in
theorem aL4 {w:World} {W H:Int} {a:Option Addr} {l:List Int} (c:Nat) {s:Int} (fx fy tx ty b:Int) (g:Good W H s l) (hl:l.length≤150) (hr:Row16 w a l) (he:fK W H l.length s=0):
  Calls Tryz.prog 7 #[.agg #[.int .i64 W, .int .i64 H, .slice a l.length c], .agg #[.int .i64 s, .int .i64 fx, .int .i64 fy, .int .i64 tx, .int .i64 ty, .int .i64 b]] w fun e w'=>e= .returned (.bool true)∧Ext w w':=by
 have HM:=aA (fun(w':World)=>kE W H a l.length c s fx fy tx ty b w')
 rw[he,show decide (l.length≤150)=true by simpa using hl]at HM
 simp only[decide_true,Bool.true_and]at HM
 have hgl:=uU g hl
 have HNW:=aA (fun(w':World) (x:Ext w w')=>pD (w:=w') c g (hr.ext x) (by omega))
 have HFI:=aA (fun(p:Spot) (R:Nat→Prop) (w':World) (h:WorldAt w' p R W H s l) (b:Int)=>nX h g hl hgl (fx,fy) (tx,ty) b)
 have HPA:=aA (fun(p:Spot) (R:Nat→Prop) (w':World) (h:WorldAt w' p R W H s l)=>(by obtain⟨G,T,h1,_⟩:=h;exact mQ h1:Calls Tryz.prog 18 #[.pointer (some ⟨p.b,0,none⟩)] w' fun e w''=>e= .returned (.agg #[.int .i64 W, .int .i64 H, .int .i64 s])∧Ext w' w''))
 have HSF:=aA (fun(w':World) (x:Ext w w') (b:Int)=>vN W H a c fx fy tx ty b (hr.ext x) g.u16)
 have HRC:=aA (fun(w':World) (x:Ext w w') (pa:Option Addr) (p:List aB) (pc:Nat) (h:RowC w' pa p) (G:gN W H l p)=>sX (w:=w') c pc g.ok (hr.ext x) h G)
 have HOF:=aA (fun(w':World) (u v:Int) (h:inB W H u v=true)=>fQ W H s u v w' g.right h)
 have HBX:=aA (fun(w':World) (i:Int) (h0:0≤i) (h1:i<cnt W H s)=>pO W H s i w' g.right h0 h1)
 have HPT:=aA (fun(hf:inB W H fx fy=true) (ht:inB W H tx ty=true) (hne:ofN W s tx ty=ofN W s fx fy)=>show eS W H l.length (aU W s (ofN W s fx fy)) (aP W s (ofN W s fx fy)) (bB W s (ofN W s fx fy)) (bA W H s (ofN W s fx fy)) fx fy=0∧bL (aU W s (ofN W s fx fy)) (aP W s (ofN W s fx fy)) (bB W s (ofN W s fx fy)) (bA W H s (ofN W s fx fy)) tx ty=true from by
  have hid:=dE g.right hf
  refine⟨lookE_ok.2 ⟨(g.box hid).may,(g.box hid).len,(g.box hid).fits,?_⟩,?_⟩
  ·rw[←fP g.right hid (fx,fy)]
   unfold eB
   rw[hf]
   simp
  ·rw[←fP g.right hid (tx,ty)]
   unfold eB
   rw[ht]
   simp[hne])
 have HFP:Hid (∀(w':World) (x:Ext w w') (bx byy bw bh:Int),eS W H l.length bx byy bw bh fx fy=0→bL bx byy bw bh tx ty=true→Calls Tryz.prog 28 #[.agg #[.int .i64 W, .int .i64 H, .slice a l.length c], .agg #[.int .i64 bx, .int .i64 byy, .int .i64 bw, .int .i64 bh], .agg #[.int .i64 fx, .int .i64 fy], .agg #[.int .i64 tx, .int .i64 ty]] w' fun e w''=> ∃(L:LandP W H l bx byy bw bh) (far:Nat→Int),IsFar (aF L) (aC W (fx,fy)) far∧Ext w' w''∧(e= .returned (.tuple #[.slice none 0 0, .int .u64 0, .int .i64 22])∨ ∃v,e= .returned (.tuple #[v, .int .u64 (far (aC W (tx,ty))), .int .i64 0]))):=aA (fun w' x bx byy bw bh h1 h2=>(xP (w:=w') c tx ty h1 (hr.ext x) g.u16 h2).mono (by
  rintro e w'' ⟨far,F,_,hx,h⟩
  refine⟨_,far,F,hx,?_⟩
  rcases h with⟨_,rfl⟩|⟨_,v,p,rfl,_⟩
  ·exact .inl rfl
  ·exact .inr ⟨v,rfl⟩))
 have HSS:=aA (fun(p:List aB) (c k e:Int) (h:HSrch W H s l (fx,fy) (tx,ty) l.length p c k e) (p':List Nat) (c' k' e':Int) (h':Srch W H l fx fy tx ty l.length p' c' k' e')=>aK2 g hl h h')
 have HBD:=aA (fun(hf:inB W H fx fy=true)=>dE g.right hf)
 have HG:=aA g
 simp only at HFI HSS
 obtain⟨n,hn⟩: ∃z,l.length=z:=⟨_,rfl⟩
 have HN:=aA hn
 rw[hn]at HNW HM HSF HRC HFP HSS HPT
 rw[hn]
 clear g hl hr he hn hgl
 go_enter Tryz.func7,Tryz.ntmps7
 go_upto_region 1 with(fail)
 obtain⟨w1,hw1⟩: ∃z,z=(w.alloc (.cells #[.int .i64 W, .int .i64 H, .slice a n c] 26)).alloc (.cells #[.int .i64 s, .int .i64 fx, .int .i64 fy, .int .i64 tx, .int .i64 ty, .int .i64 b] 30):=⟨_,rfl⟩
 have X1:=aA (show Ext w w1 by rw[hw1];exact((Ext.refl _).alloc _).alloc _)
 have F1:=aA (show Blk w1 w.heap.size 26 #[.int .i64 W, .int .i64 H, .slice a n c] by rw[hw1];exact(Blk.new_ rfl).over)
 have Q1:=aA (show Blk w1 (w.heap.size+1) 30 #[.int .i64 s, .int .i64 fx, .int .i64 fy, .int .i64 tx, .int .i64 ty, .int .i64 b] by rw[hw1];exact Blk.new_ (by simp))
 rw[←hw1]
 obtain⟨fb,hfb⟩: ∃z,w.heap.size=z:=⟨_,rfl⟩
 rw[hfb]at F1 Q1⊢
 clear hw1 hfb
 have q0:=Q1.out.at 0 rfl;have q1:=Q1.out.at 1 rfl;have q2:=Q1.out.at 2 rfl;have q3:=Q1.out.at 3 rfl;have q4:=Q1.out.at 4 rfl;have q5:=Q1.out.at 5 rfl;have qz:=Q1.out.lt
 have f0:=F1.out.at 0 rfl;have f1:=F1.out.at 1 rfl;have f2:=F1.out.at 2 rfl;have fz:=F1.out.lt
 go_wp2_with fail
 refine(HM.out _).mono ?_
 rintro e w2 ⟨rfl,x2⟩
 have X2:=aA (X1.out.trans x2)
 have F2:=aA (F1.out.ext x2)
 have Q2:=aA (Q1.out.ext x2)
 clear x2 F1 Q1 X1 q0 q1 q2 q3 q4 q5 qz f0 f1 f2 fz
 have q0:=Q2.out.at 0 rfl;have q1:=Q2.out.at 1 rfl;have q2:=Q2.out.at 2 rfl;have q3:=Q2.out.at 3 rfl;have q4:=Q2.out.at 4 rfl;have q5:=Q2.out.at 5 rfl;have qz:=Q2.out.lt
 have f0:=F2.out.at 0 rfl;have f1:=F2.out.at 1 rfl;have f2:=F2.out.at 2 rfl;have fz:=F2.out.lt
 go_wp2_with fail
 refine(HNW.out _ X2.out).mono ?_
 rintro e w3 ⟨p,R,rfl,hw,x3,_,_⟩
 have HFB:=aA (fun(w':World) (x:Ext w3 w') (b:Int)=>HFI.out p R w' (hw.ext x) b)
 have HP1:=aA (fun(w':World) (x:Ext w3 w')=>HPA.out p R w' (hw.ext x))
 obtain⟨pb,hpb⟩: ∃z,p.b=z:=⟨_,rfl⟩
 rw[hpb]at HFB HP1⊢
 have X3:=aA (X2.out.trans x3)
 have F3:=aA (F2.out.ext x3)
 have Q3:=aA (Q2.out.ext x3)
 clear x3 hw hpb HFI HPA HNW HM F2 Q2 X2 q0 q1 q2 q3 q4 q5 qz f0 f1 f2 fz
 have q0:=Q3.out.at 0 rfl;have q1:=Q3.out.at 1 rfl;have q2:=Q3.out.at 2 rfl;have q3:=Q3.out.at 3 rfl;have q4:=Q3.out.at 4 rfl;have q5:=Q3.out.at 5 rfl;have qz:=Q3.out.lt
 have f0:=F3.out.at 0 rfl;have f1:=F3.out.at 1 rfl;have f2:=F3.out.at 2 rfl;have fz:=F3.out.lt
 go_wp2_with fail
 refine(HFB.out _ (Ext.refl _) _).mono ?_
 rintro e w4 ⟨x4,p1,c1,k1,e1,v1,hs1,rfl,ho1⟩
 obtain⟨va,vc,rfl⟩:=ho1.slice
 have S1:=aA hs1
 have O1:=aA ho1
 have X34:=aA x4
 have X4:=aA (X3.out.trans x4)
 have F4:=aA (F3.out.ext x4)
 have Q4:=aA (Q3.out.ext x4)
 have HL1:=aA (sF hs1)
 obtain⟨m1,hm1⟩: ∃z,p1.length=z:=⟨_,rfl⟩
 have HM1:=aA hm1
 rw[hm1]at O1⊢
 clear hs1 ho1 x4 hm1 F3 Q3 X3 HFB q0 q1 q2 q3 q4 q5 qz f0 f1 f2 fz
 have q0:=Q4.out.at 0 rfl;have q1:=Q4.out.at 1 rfl;have q2:=Q4.out.at 2 rfl;have q3:=Q4.out.at 3 rfl;have q4:=Q4.out.at 4 rfl;have q5:=Q4.out.at 5 rfl;have qz:=Q4.out.lt
 have f0:=F4.out.at 0 rfl;have f1:=F4.out.at 1 rfl;have f2:=F4.out.at 2 rfl;have fz:=F4.out.lt
 go_wp2_with fail
 refine(HSF.out _ (X4.out.trans ((Ext.refl _).alloc _)) _).mono ?_
 rintro e w5 ⟨x5,p2,c2,k2,e2,v2,hs2,rfl,ho2⟩
 obtain⟨ua,uc,rfl⟩:=ho2.slice
 obtain⟨m2,hm2⟩: ∃z,(p2.map (aD W)).length=z:=⟨_,rfl⟩
 rw[hm2]
 have R5:=aA (show Blk w5 w4.heap.size 40 #[.slice va m1 vc, .int .u64 c1, .int .i64 k1] from(Blk.new_ rfl).ext x5)
 have X45:=aA (((Ext.refl w4).alloc (.cells #[.slice va m1 vc, .int .u64 c1, .int .i64 k1] 40)).trans x5)
 have X35:=aA (X34.out.trans X45.out)
 have X5:=aA (X4.out.trans X45.out)
 have F5:=aA (F4.out.ext X45.out)
 have Q5:=aA (Q4.out.ext X45.out)
 have O5:=aA (O1.out.ext X45.out)
 obtain⟨hee,S2⟩:=HSS.out _ _ _ _ S1.out _ _ _ _ hs2
 subst hee
 have f1:(e1 !=e1)=false:=by simp
 clear hs2 x5 ho2 hm2 F4 Q4 X4 X34 X45 O1 HSS HSF q0 q1 q2 q3 q4 q5 qz f0 f1 f2 fz
 have q0:=Q5.out.at 0 rfl;have q1:=Q5.out.at 1 rfl;have q2:=Q5.out.at 2 rfl;have q3:=Q5.out.at 3 rfl;have q4:=Q5.out.at 4 rfl;have q5:=Q5.out.at 5 rfl;have qz:=Q5.out.lt
 have f0:=F5.out.at 0 rfl;have f1:=F5.out.at 1 rfl;have f2:=F5.out.at 2 rfl;have fz:=F5.out.lt
 have r0:=R5.out.at 0 rfl;have r1:=R5.out.at 1 rfl;have r2:=R5.out.at 2 rfl;have rz:=R5.out.lt
 rcases S2 with⟨h1,hp,hc⟩|⟨h1,hfi,hti,hcc,hgp,hk1,hk2,hk3,hfl⟩
 ·subst hp
  subst hc
  obtain rfl:m1=0:=HM1.out.symm
  have f2:(e1 !=0)=true:=by simpa using h1
  clear h1 S1 O5 HL1
  go_wp2_with (go_at_call 10;refine(cY _).mono ?_;rintro e w9 ⟨rfl,x9⟩;have X9:=aA (X5.out.trans (((Ext.refl _).alloc _).trans x9));clear x9)
  go_ret
  exact⟨rfl,X9.out⟩
 ·subst h1
  have f3:decide (c1<c2)=false:=by rw[decide_eq_false_iff_not];omega
  have f4:decide (k1<1)=false:=by rw[decide_eq_false_iff_not];omega
  have f5:decide ((n:Int)<k1)=false:=by rw[decide_eq_false_iff_not];omega
  have HCK:=aA (fun(w':World) (x:Ext w5 w')=>HRC.out w' (X5.out.trans x) va p1 vc (Reads.rowC (n:=m1) (c:=vc) (O5.out.ext x).reads).2 hgp)
  rw[HM1.out]at HCK
  have HFI:=aA hfi
  have HTI:=aA hti
  have HK3:=aA hk3
  have HFL:=aA hfl
  clear S1 HL1 hcc hgp hk1 hk2 hk3 hfl O5 hfi hti
  go_wp2_with fail
  refine(HCK.out _ ((Ext.refl _).alloc _)).mono ?_
  rintro e w6 ⟨rfl,x6⟩
  have X56:=aA (((Ext.refl w5).alloc (.cells #[.slice ua m2 uc, .int .u64 c2, .int .i64 k2] 40)).trans x6)
  have X36:=aA (X35.out.trans X56.out)
  have R6:=aA (R5.out.ext X56.out)
  have X6:=aA (X5.out.trans X56.out)
  have F6:=aA (F5.out.ext X56.out)
  have Q6:=aA (Q5.out.ext X56.out)
  clear x6 HCK F5 Q5 X5 R5 X35 X56 r0 r1 r2 rz q0 q1 q2 q3 q4 q5 qz f0 f1 f2 fz
  have q0:=Q6.out.at 0 rfl;have q1:=Q6.out.at 1 rfl;have q2:=Q6.out.at 2 rfl;have q3:=Q6.out.at 3 rfl;have q4:=Q6.out.at 4 rfl;have q5:=Q6.out.at 5 rfl;have qz:=Q6.out.lt
  have f0:=F6.out.at 0 rfl;have f1:=F6.out.at 1 rfl;have f2:=F6.out.at 2 rfl;have fz:=F6.out.lt
  have r0:=R6.out.at 0 rfl;have r1:=R6.out.at 1 rfl;have r2:=R6.out.at 2 rfl;have rz:=R6.out.lt
  go_wp2_with fail
  refine(HP1.out _ X36.out).mono ?_
  rintro e w7 ⟨rfl,x7⟩
  have X7:=aA (X6.out.trans x7)
  have F7:=aA (F6.out.ext x7)
  have Q7:=aA (Q6.out.ext x7)
  have R7:=aA (R6.out.ext x7)
  clear x7 HP1 F6 Q6 X6 R6 X36 r0 r1 r2 rz f3 f4 f5 q0 q1 q2 q3 q4 q5 qz f0 f1 f2 fz
  go_upto_region 15 with(fail)
  obtain⟨w8,hw8⟩: ∃z,z=w7.alloc (.cells #[.int .i64 W, .int .i64 H, .int .i64 s] 53):=⟨_,rfl⟩
  have x8:Ext w7 w8:=by rw[hw8];exact(Ext.refl _).alloc _
  have P8:=aA (show Blk w8 w7.heap.size 53 #[.int .i64 W, .int .i64 H, .int .i64 s] by rw[hw8];exact Blk.new_ rfl)
  rw[←hw8]
  obtain⟨pp,hpp⟩: ∃z,w7.heap.size=z:=⟨_,rfl⟩
  rw[hpp]at P8⊢
  have X8:=aA (X7.out.trans x8)
  have F8:=aA (F7.out.ext x8)
  have Q8:=aA (Q7.out.ext x8)
  have R8:=aA (R7.out.ext x8)
  clear hw8 hpp x8 F7 Q7 X7 R7
  have q0:=Q8.out.at 0 rfl;have q1:=Q8.out.at 1 rfl;have q2:=Q8.out.at 2 rfl;have q3:=Q8.out.at 3 rfl;have q4:=Q8.out.at 4 rfl;have q5:=Q8.out.at 5 rfl;have qz:=Q8.out.lt
  have o0:=P8.out.at 0 rfl;have o1:=P8.out.at 1 rfl;have o2:=P8.out.at 2 rfl;have oz:=P8.out.lt
  have HO1:=aA (fun w'=>HOF.out w' fx fy HFI.out)
  have HO2:=aA (fun w'=>HOF.out w' tx ty HTI.out)
  have hbd:=HBD.out HFI.out
  obtain⟨i2,hi2⟩: ∃z,ofN W s tx ty=z:=⟨_,rfl⟩
  have HI2:=aA hi2
  have HPTT:=aA (HPT.out HFI.out HTI.out)
  rw[hi2]at HO2 HPTT
  obtain⟨i1,hi1⟩: ∃z,ofN W s fx fy=z:=⟨_,rfl⟩
  have HI1:=aA hi1
  rw[hi1]at HO1 hbd HPTT HFL
  have HBD1:=aA hbd
  clear hi1 hi2 hbd
  go_wp2_with fail
  refine(HO1.out _).mono ?_
  rintro e w9 ⟨rfl,x9⟩
  have X9:=aA (X8.out.trans x9)
  have F9:=aA (F8.out.ext x9)
  have Q9:=aA (Q8.out.ext x9)
  have R9:=aA (R8.out.ext x9)
  have P9:=aA (P8.out.ext x9)
  clear x9 F8 Q8 X8 R8 P8 o0 o1 o2 oz q0 q1 q2 q3 q4 q5 qz
  have q0:=Q9.out.at 0 rfl;have q1:=Q9.out.at 1 rfl;have q2:=Q9.out.at 2 rfl;have q3:=Q9.out.at 3 rfl;have q4:=Q9.out.at 4 rfl;have q5:=Q9.out.at 5 rfl;have qz:=Q9.out.lt
  have o0:=P9.out.at 0 rfl;have o1:=P9.out.at 1 rfl;have o2:=P9.out.at 2 rfl;have oz:=P9.out.lt
  go_wp2_with fail
  refine(HO2.out _).mono ?_
  rintro e w10 ⟨rfl,x10⟩
  have X10:=aA (X9.out.trans x10)
  have F10:=aA (F9.out.ext x10)
  have Q10:=aA (Q9.out.ext x10)
  have R10:=aA (R9.out.ext x10)
  have P10:=aA (P9.out.ext x10)
  clear x10 F9 Q9 X9 R9 P9 o0 o1 o2 oz q0 q1 q2 q3 q4 q5 qz HO1 HO2
  have r0:=R10.out.at 0 rfl;have r1:=R10.out.at 1 rfl;have r2:=R10.out.at 2 rfl;have rz:=R10.out.lt
  have o0:=P10.out.at 0 rfl;have o1:=P10.out.at 1 rfl;have o2:=P10.out.at 2 rfl;have oz:=P10.out.lt
  by_cases hne:i1=i2
  ·have f6:(i1 !=i2)=false:=by rw[hne];simp
   have HPP:=aA (HPTT.out hne.symm)
   have HB1:=aA (fun(w':World)=>HBX.out w' i1 HBD1.out.1 HBD1.out.2)
   clear hne HPTT
   go_upto_region 21 with(fail)
   obtain⟨bx,hbx⟩: ∃z,aU W s i1=z:=⟨_,rfl⟩
   obtain⟨byy,hby⟩: ∃z,aP W s i1=z:=⟨_,rfl⟩
   obtain⟨bw,hbw⟩: ∃z,bB W s i1=z:=⟨_,rfl⟩
   obtain⟨bh,hbh⟩: ∃z,bA W H s i1=z:=⟨_,rfl⟩
   have HB2:Hid (∀w':World,Calls Tryz.prog 27 #[.agg #[.int .i64 W, .int .i64 H, .int .i64 s], .int .i64 i1] w' fun e w''=>e= .returned (.tuple #[.agg #[.int .i64 bx, .int .i64 byy, .int .i64 bw, .int .i64 bh], .int .i64 0])∧Ext w' w''):=aA (by rw[←hbx,←hby,←hbw,←hbh];exact HB1.out)
   have HFL2:Hid (∀(L:LandP W H l bx byy bw bh) (D:Nat→Int),IsFar (aF L) (aC W (fx,fy)) D→c1≤D (aC W (tx,ty))):=aA (by
    unfold cT at HFL
    rw[hbx,hby,hbw,hbh]at HFL
    exact HFL.out)
   rw[hbx,hby,hbw,hbh]at HPP
   clear hbx hby hbw hbh HB1 HFL
   go_upto_region 22 with(go_at_call 27;refine(HB2.out _).mono ?_;rintro e w11 ⟨rfl,x11⟩;have X11:=aA (X10.out.trans x11);have F11:=aA (F10.out.ext x11);have Q11:=aA (Q10.out.ext x11);have R11:=aA (R10.out.ext x11);clear x11 o0 o1 o2 oz r0 r1 r2 rz)
   obtain⟨w12,hw12⟩: ∃z,z=w11.alloc (.cells #[.int .i64 bx, .int .i64 byy, .int .i64 bw, .int .i64 bh] 71):=⟨_,rfl⟩
   have x12:Ext w11 w12:=by rw[hw12];exact(Ext.refl _).alloc _
   have K12:=aA (show Blk w12 w11.heap.size 71 #[.int .i64 bx, .int .i64 byy, .int .i64 bw, .int .i64 bh] by rw[hw12];exact Blk.new_ rfl)
   rw[←hw12]
   obtain⟨kk,hkk⟩: ∃z,w11.heap.size=z:=⟨_,rfl⟩
   rw[hkk]at K12⊢
   have X12:=aA (X11.out.trans x12)
   have F12:=aA (F11.out.ext x12)
   have Q12:=aA (Q11.out.ext x12)
   have R12:=aA (R11.out.ext x12)
   clear hw12 hkk x12 F11 Q11 X11 R11 F10 Q10 X10 R10 P10
   have q0:=Q12.out.at 0 rfl;have q1:=Q12.out.at 1 rfl;have q2:=Q12.out.at 2 rfl;have q3:=Q12.out.at 3 rfl;have q4:=Q12.out.at 4 rfl;have q5:=Q12.out.at 5 rfl;have qz:=Q12.out.lt
   have f0:=F12.out.at 0 rfl;have f1:=F12.out.at 1 rfl;have f2:=F12.out.at 2 rfl;have fz:=F12.out.lt
   have k0:=K12.out.at 0 rfl;have k1:=K12.out.at 1 rfl;have k2:=K12.out.at 2 rfl;have k3:=K12.out.at 3 rfl;have kz:=K12.out.lt
   go_wp2_with fail
   refine(HFP.out _ X12.out _ _ _ _ HPP.out.1 HPP.out.2).mono ?_
   rintro e w13 ⟨LL,far,FF,x13,hfar⟩
   have X13:=aA (X12.out.trans x13)
   have R13:=aA (R12.out.ext x13)
   have hle:=HFL2.out _ far FF
   clear x13 q0 q1 q2 q3 q4 q5 qz f0 f1 f2 fz k0 k1 k2 k3 kz
   have r0:=R13.out.at 0 rfl;have r1:=R13.out.at 1 rfl;have r2:=R13.out.at 2 rfl;have rz:=R13.out.lt
   rcases hfar with rfl|⟨v,rfl⟩
   ·clear hle FF
    go_wp2_with (go_at_call 10;refine(cY _).mono ?_;rintro e w14 ⟨rfl,x14⟩;have X14:=aA (X13.out.trans x14);clear x14)
    go_ret
    exact⟨rfl,X14.out⟩
   ·obtain⟨z,hz⟩: ∃z,far (aC W (tx,ty))=z:=⟨_,rfl⟩
    rw[hz]at hle⊢
    have f7:decide (c1≤z)=true:=by simpa using hle
    clear hle hz FF
    go_wp2_with (go_at_call 10;refine(cY _).mono ?_;rintro e w14 ⟨rfl,x14⟩;have X14:=aA (X13.out.trans x14);clear x14)
    go_ret
    exact⟨rfl,X14.out⟩
  ·have f6:(i1 !=i2)=true:=by simpa using hne
   have hft:(fx,fy)≠(tx,ty):=fun e=>hne (by
    injection e with e1 e2
    rw[←HI1.out,←HI2.out,e1,e2])
   have hk:=HK3.out hft
   have f7:decide ((2:Int)≤k1)=true:=by simpa using hk
   clear hne hft hk HPTT
   go_wp2_with (go_at_call 10;refine(cY _).mono ?_;rintro e w14 ⟨rfl,x14⟩;have X14:=aA (X10.out.trans x14);clear x14)
   go_ret
   exact⟨rfl,X14.out⟩
theorem yC {w:World} (W H:Int) (a:Option Addr) (l:List Int) (c:Nat) (s fx fy tx ty b:Int) (hr:Row16 w a l) (hu:cS l):
  Calls Tryz.prog 7 #[.agg #[.int .i64 W, .int .i64 H, .slice a l.length c], .agg #[.int .i64 s, .int .i64 fx, .int .i64 fy, .int .i64 tx, .int .i64 ty, .int .i64 b]] w fun e w'=>e= .returned (.bool true)∧Ext w w':=by
 cases hm:(decide (l.length≤150)&&decide (fK W H l.length s=0))
 ·exact aLp W H a l.length c s fx fy tx ty b hm
 ·rw[Bool.and_eq_true,decide_eq_true_eq,decide_eq_true_eq]at hm
  exact aL4 c fx fy tx ty b (yO hu hm.2) hm.1 hr hm.2
end Go.Proofs.YtaellcgglldjaaaGreat

