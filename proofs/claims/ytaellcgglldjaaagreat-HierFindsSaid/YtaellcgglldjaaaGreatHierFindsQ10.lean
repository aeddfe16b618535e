/- Part of a proof: HeapA InP RedP. -/
import Derived.Test.YtaellcgglldjaaaGreatHierFindsQ08
import Derived.Test.YtaellcgglldjaaaGreatHierFindsQ09
import Derived.Test.YtaellcgglldjaaaGreatHierFindsQ03
import Derived.Test.YtaellcgglldjaaaGreatHierFindsQ02
import Derived.Test.YtaellcgglldjaaaGreatHierFindsQ04
import Derived.Test.YtaellcgglldjaaaGreatHierFindsQ07
set_option linter.all false
set_option linter.unusedVariables false
set_option linter.unusedSimpArgs false
namespace Go.Proofs.YtaellcgglldjaaaGreat
open Go.RowKit
def eX (k:fN):Value:= .agg #[.int .u64 k.1.1, .int .u64 k.1.2, .int .i64 k.2.1, .int .i64 k.2.2]
def aAr (t:aM):Value:= .agg #[.int .i64 t.1, .int .u64 t.2.1.1, .int .u64 t.2.1.2, .int .i64 t.2.2.1, .int .i64 t.2.2.2]
theorem vY (a b:fN) (w:World):Calls Tryz.prog 146 #[eX a,eX b] w fun e w'=>e= .returned (.bool (bP a b))∧Ext w w':=by
 obtain⟨⟨f,h⟩,y,x⟩:=a
 obtain⟨⟨f',h'⟩,y',x'⟩:=b
 unfold eX
 simp only
 by_cases e1:f=f'
 ·have q1:(f !=f')=false:=by simpa using e1
  by_cases e2:h=h'
  ·have q2:(h !=h')=false:=by simpa using e2
   by_cases e3:y=y'
   ·have q3:(y !=y')=false:=by simpa using e3
    have e:bP ((f,h),(y,x)) ((f',h'),(y',x'))=decide (x<x'):=by simp[bP,e1,e2,e3]
    rw[e]
    clear e e1 e2 e3
    go_enter Tryz.func146,Tryz.ntmps146
    go_wp2
    go_ret
    exact⟨rfl,z_x⟩
   have q3:(y !=y')=true:=by simpa using e3
   have e:bP ((f,h),(y,x)) ((f',h'),(y',x'))=decide (y<y'):=by simp[bP,e1,e2,e3]
   rw[e]
   clear e e1 e2 e3
   go_enter Tryz.func146,Tryz.ntmps146
   go_wp2
   go_ret
   exact⟨rfl,z_x⟩
  have q2:(h !=h')=true:=by simpa using e2
  have e:bP ((f,h),(y,x)) ((f',h'),(y',x'))=decide (h<h'):=by simp[bP,e1,e2]
  rw[e]
  clear e e1 e2
  go_enter Tryz.func146,Tryz.ntmps146
  go_wp2
  go_ret
  exact⟨rfl,z_x⟩
 have q1:(f !=f')=true:=by simpa using e1
 have e:bP ((f,h),(y,x)) ((f',h'),(y',x'))=decide (f<f'):=by simp[bP,e1]
 rw[e]
 clear e e1
 go_enter Tryz.func146,Tryz.ntmps146
 go_wp2
 go_ret
 exact⟨rfl,z_x⟩
theorem aM7 (a b:fN) (w:World):(Op.equalIn 10000 181 (eX a) (eX b)).run Tryz.prog w= .ok (decide (a=b)) w:=by
 have u:Tryz.prog.underlying 181=some (.struct (Tryz.prog.fieldsOf 181)):=by kernel_rfl
 have s:Tryz.prog.stoodInHeld 181=false:=by kernel_rfl
 obtain⟨⟨f,h⟩,y,x⟩:=a
 obtain⟨⟨f',h'⟩,y',x'⟩:=b
 have e:decide (((f,h),(y,x))=((f',h'),(y',x')))=(f==f'&&(h==h'&&(y==y'&&x==x'))):=by
  rw[Bool.eq_iff_iff];simp[and_assoc]
 rw[e]
 unfold eX
 rw[run_equalIn_struct w 9999 181 _ _ u s]
 cases h1:f==f'<;>cases h2:h==h'<;>cases h3:y==y'<;>cases h4:x==x'<;>simp[go_sem,h1,h2,h3,h4]
theorem uE (a b:Int) (w:World) (h1:0≤a) (h2:0≤b) (h3:a≤18446744073709551615) (h4:b≤18446744073709551615):
  Calls Tryz.prog 91 #[.int .u64 a, .int .u64 b] w fun e w'=>e= .returned (.int .u64 (if a+b≤18446744073709551615 then a+b else 18446744073709551615))∧Ext w w':=by
 have k1:IntKind.u64.wrap (18446744073709551615-b)=18446744073709551615-b:=by unfold IntKind.wrap;simp[IntKind.bits,IntKind.signed];omega
 by_cases h:a+b≤18446744073709551615
 ·have k2:IntKind.u64.wrap (a+b)=a+b:=by unfold IntKind.wrap;simp[IntKind.bits,IntKind.signed];omega
  have hd:decide (18446744073709551615-b<a)=false:=by simp;omega
  rw[if_pos h]
  clear h
  go_enter Tryz.func91,Tryz.ntmps91
  go_wp2
  go_ret
  exact⟨rfl,z_x⟩
 have hd:decide (18446744073709551615-b<a)=true:=by simp;omega
 rw[if_neg h]
 clear h
 go_enter Tryz.func91,Tryz.ntmps91
 go_wp2
 go_ret
 exact⟨rfl,z_x⟩
structure LandAt (w:World) (W H:Int) (a:Option Addr) (l:List Int) (bx byy bw bh:Int):Prop where
 may:bW W H=true
 len:(l.length:Int)=W*H
 row:Row16 w a l
 u16:cV l
 fits:jL W H bx byy bw bh=true
theorem LandAt.ext {w w':World} {W H:Int} {a:Option Addr} {l:List Int} {bx byy bw bh:Int} (L:LandAt w W H a l bx byy bw bh) (e:Ext w w'):LandAt w' W H a l bx byy bw bh:={L with row:=L.row.ext e}
def bD (l:List Int) (W bx byy bw bh x y:Int):Bool:=bO bx byy bw bh x y&&decide (0<aL l W (x,y))
theorem oA (W H:Int) (a:Option Addr) (n c:Nat) (bx byy bw bh x y:Int) (w:World) (hm:bW W H=true) (h1:0≤x) (h2:x<W) (h3:0≤y) (h4:y<H):
  Calls Tryz.prog 69 #[.agg #[.int .i64 W, .int .i64 H, .slice a n c, .int .i64 bx, .int .i64 byy, .int .i64 bw, .int .i64 bh], .agg #[.int .i64 x, .int .i64 y]] w fun e w'=>e= .returned (.int .i64 (y*W+x))∧Ext w w':=by
 obtain⟨m1,m2,m3,m4⟩:=mayB_true.1 hm
 have ib:=jO h1 h2 h3 h4
 have wb:=cN (a:=W) (b:=H) (A:=256) (B:=256) (by omega) m2 (by omega) m4
 have k1:IntKind.i64.wrap (y*W)=y*W:=IntWalk.i64_in _ (by omega)
 have k2:IntKind.i64.wrap (y*W+x)=y*W+x:=IntWalk.i64_in _ (by omega)
 go_enter Tryz.func69,Tryz.ntmps69
 go_wp2
 go_ret
 exact⟨rfl,z_x⟩
theorem sE (f x y:Int) (w:World):Calls Tryz.prog 119 #[.int .u64 f, .agg #[.int .i64 x, .int .i64 y]] w fun e w'=>e= .returned (eX ((f,0),(y,x)))∧Ext w w':=by
 unfold eX
 go_enter Tryz.func119,Tryz.ntmps119
 go_wp2
 exact bodyPost_ret (v:= .agg #[.int .u64 f, .int .u64 0, .int .i64 y, .int .i64 x]) (by simp[results,Tryz.results119,go_sem, *]) rfl ⟨rfl,z_x⟩
set_option maxRecDepth 100000 in
theorem pY {w:World} {W H:Int} {a:Option Addr} {l:List Int} {bx byy bw bh:Int} (L:LandAt w W H a l bx byy bw bh) (c:Nat) (x y:Int):
  Calls Tryz.prog 118 #[.agg #[.int .i64 W, .int .i64 H, .slice a l.length c, .int .i64 bx, .int .i64 byy, .int .i64 bw, .int .i64 bh], .agg #[.int .i64 x, .int .i64 y]] w fun e w'=>e= .returned (.bool (bD l W bx byy bw bh x y))∧Ext w w':=by
 obtain⟨hm,hl,hr,hu,hf⟩:=L
 have HG:=aA (fun w'=>sF bx byy bw bh x y w')
 rw[uP hm hf]at HG
 unfold bD
 cases hh:bO bx byy bw bh x y
 ·rw[hh]at HG
  obtain⟨n,hn⟩: ∃n,l.length=n:=⟨_,rfl⟩
  rw[hn]
  clear hl hr hu hf hh hn
  simp only[Bool.false_and]
  go_enter Tryz.func118,Tryz.ntmps118
  go_wp2_with fail
  obtain⟨w0,hw0⟩: ∃w0,w0=(w.alloc (.cells #[.int .i64 W, .int .i64 H, .slice a n c, .int .i64 bx, .int .i64 byy, .int .i64 bw, .int .i64 bh] 147)).alloc (.cells #[.int .i64 x, .int .i64 y] 28):=⟨_,rfl⟩
  have hx0:Ext w w0:=by rw[hw0];exact z_x
  have z0:w.heap.size<w0.heap.size:=by rw[hw0];simp;omega
  have z1:w.heap.size+1<w0.heap.size:=by rw[hw0];simp
  have q0:w0.cell? ⟨w.heap.size,0,none⟩=some (.int .i64 W):=by rw[hw0];simp[go_sem]
  have q1:w0.cell? ⟨w.heap.size,1,none⟩=some (.int .i64 H):=by rw[hw0];simp[go_sem]
  have q2:w0.cell? ⟨w.heap.size,2,none⟩=some (.slice a n c):=by rw[hw0];simp[go_sem]
  have q3:w0.cell? ⟨w.heap.size,3,none⟩=some (.int .i64 bx):=by rw[hw0];simp[go_sem]
  have q4:w0.cell? ⟨w.heap.size,4,none⟩=some (.int .i64 byy):=by rw[hw0];simp[go_sem]
  have q5:w0.cell? ⟨w.heap.size,5,none⟩=some (.int .i64 bw):=by rw[hw0];simp[go_sem]
  have q6:w0.cell? ⟨w.heap.size,6,none⟩=some (.int .i64 bh):=by rw[hw0];simp[go_sem]
  have p0:w0.cell? ⟨w.heap.size+1,0,none⟩=some (.int .i64 x):=by rw[hw0];simp[go_sem]
  have p1:w0.cell? ⟨w.heap.size+1,1,none⟩=some (.int .i64 y):=by rw[hw0];simp[go_sem]
  rw[←hw0]
  clear hw0
  refine wp_region_held_drew (S:=(fun W=>(∀b o,b<w0.heap.size→W.cell? ⟨b,o,none⟩=w0.cell? ⟨b,o,none⟩)∧Ext w0 W)) (by kernel_rfl) (by first|with_reducible exact bG _|exact aI z_x) (fun hK0=> ?_)
  (((refine bE 0 ?_;try simp only[zz]));((refine bE 1 ?_;try simp only[zz]));((refine bE 2 ?_;try simp only[zz])))
  (refine wpAnyH_ready (rs:=[3]) (by kernel_rfl) (by simp) ?_;refine AllReadyH.cons (o:= ?g4_o) ?g4_hi (fun K hK=> ?_) AllReadyH.nil;(case g4_hi=>(simp only[z_0,z_1,z_2];rfl));go_simp;(go_at_call 67;refine(HG.out _).mono ?_;rintro e w1 ⟨rfl,hb1⟩);go_wp2_with fail;refine hK.out _ _ (aI z_x) (fun hK0=> ?_);clear hK K;try simp only[zz])
  ((refine bE 4 ?_;try simp only[zz]))
  (((refine bE 5 ?_;try simp only[zz]));((refine bE 6 ?_;try simp only[zz]));((refine bE 7 ?_;try simp only[zz]));((refine bE 8 ?_;try simp only[zz]));((refine bE 9 ?_;try simp only[zz]));((refine bE 10 ?_;try simp only[zz]));((refine bE 11 ?_;try simp only[zz]));((refine bE 12 ?_;try simp only[zz]));((refine bE 13 ?_;try simp only[zz])))
  (((refine bE 14 ?_;try simp only[zz]));((refine bE 15 ?_;try simp only[zz])))
  refine wpAnyH_done (by kernel_rfl) ?_ _
  have hx:=hx0.trans hK0.2
  go_wp2_with fail
  go_ret
  exact⟨rfl,hx⟩
 rw[hh]at HG
 obtain⟨m1,m2,m3,m4⟩:=mayB_true.1 hm
 have ff:=fitsR_true.1 hf
 have h9:=hasB_true.1 hh
 have h1:0≤x:=by omega
 have h2:x<W:=by omega
 have h3:0≤y:=by omega
 have h4:y<H:=by omega
 obtain⟨b,off,rfl,hb,hc⟩:=gJ hr hl h1 h2 h3 h4
 have cb:=bX hu W (x,y)
 have ib:=jO h1 h2 h3 h4
 have i0:0≤y*W+x:=by omega
 have ib2:y*W+x<(l.length:Int):=by omega
 have HA:=aA (fun n w'=>oA W H (some ⟨b,off,none⟩) n c bx byy bw bh x y w' hm h1 h2 h3 h4)
 simp only[Bool.true_and]
 generalize aL l W (x,y)=v at *
 obtain⟨n,hn⟩: ∃n,l.length=n:=⟨_,rfl⟩
 rw[hn]at ib2⊢
 clear hl hr hu hf hh h9 ff hm m1 m2 m3 m4 hn h1 h2 h3 h4 ib
 generalize y*W+x=k at *
 go_enter Tryz.func118,Tryz.ntmps118
 go_wp2_with fail
 obtain⟨w0,hw0⟩: ∃w0,w0=(w.alloc (.cells #[.int .i64 W, .int .i64 H, .slice (some ⟨b,off,none⟩) n c, .int .i64 bx, .int .i64 byy, .int .i64 bw, .int .i64 bh] 147)).alloc (.cells #[.int .i64 x, .int .i64 y] 28):=⟨_,rfl⟩
 have hx0:Ext w w0:=by rw[hw0];exact z_x
 have z0:w.heap.size<w0.heap.size:=by rw[hw0];simp;omega
 have z1:w.heap.size+1<w0.heap.size:=by rw[hw0];simp
 have q0:w0.cell? ⟨w.heap.size,0,none⟩=some (.int .i64 W):=by rw[hw0];simp[go_sem]
 have q1:w0.cell? ⟨w.heap.size,1,none⟩=some (.int .i64 H):=by rw[hw0];simp[go_sem]
 have q2:w0.cell? ⟨w.heap.size,2,none⟩=some (.slice (some ⟨b,off,none⟩) n c):=by rw[hw0];simp[go_sem]
 have q3:w0.cell? ⟨w.heap.size,3,none⟩=some (.int .i64 bx):=by rw[hw0];simp[go_sem]
 have q4:w0.cell? ⟨w.heap.size,4,none⟩=some (.int .i64 byy):=by rw[hw0];simp[go_sem]
 have q5:w0.cell? ⟨w.heap.size,5,none⟩=some (.int .i64 bw):=by rw[hw0];simp[go_sem]
 have q6:w0.cell? ⟨w.heap.size,6,none⟩=some (.int .i64 bh):=by rw[hw0];simp[go_sem]
 have p0:w0.cell? ⟨w.heap.size+1,0,none⟩=some (.int .i64 x):=by rw[hw0];simp[go_sem]
 have p1:w0.cell? ⟨w.heap.size+1,1,none⟩=some (.int .i64 y):=by rw[hw0];simp[go_sem]
 have hc0:=(hx0.cell (p:=⟨b,off+k.toNat,none⟩) hb).trans hc
 have hb0:b<w0.heap.size:=Nat.lt_of_lt_of_le hb hx0.size
 clear hc hb
 rw[←hw0]
 clear hw0
 refine wp_region_held_drew (S:=(fun W=>(∀b o,b<w0.heap.size→W.cell? ⟨b,o,none⟩=w0.cell? ⟨b,o,none⟩)∧Ext w0 W)) (by kernel_rfl) (by first|with_reducible exact bG _|exact aI z_x) (fun hK0=> ?_)
 (((refine bE 0 ?_;try simp only[zz]));((refine bE 1 ?_;try simp only[zz]));((refine bE 2 ?_;try simp only[zz])))
 (refine wpAnyH_ready (rs:=[3]) (by kernel_rfl) (by simp) ?_;refine AllReadyH.cons (o:= ?g20_o) ?g20_hi (fun K hK=> ?_) AllReadyH.nil;(case g20_hi=>(simp only[z_0,z_1,z_2];rfl));go_simp;(go_at_call 67;refine(HG.out _).mono ?_;rintro e w1 ⟨rfl,hb1⟩);go_wp2_with fail;refine hK.out _ _ (aI z_x) (fun hK0=> ?_);clear hK K;try simp only[zz])
 (((refine bE 4 ?_;try simp only[zz]));((refine bE 5 ?_;try simp only[zz]));((refine bE 6 ?_;try simp only[zz]));((refine bE 7 ?_;try simp only[zz]));((refine bE 8 ?_;try simp only[zz]));((refine bE 9 ?_;try simp only[zz])))
 (refine wpAnyH_ready (rs:=[10]) (by kernel_rfl) (by simp) ?_;refine AllReadyH.cons (o:= ?g27_o) ?g27_hi (fun K hK=> ?_) AllReadyH.nil;(case g27_hi=>(simp only[z_0,z_1,z_2];rfl));go_simp;(go_at_call 69;refine(HA.out _ _).mono ?_;rintro e w2 ⟨rfl,hb2⟩);go_wp2_with fail;refine hK.out _ _ (aI z_x) (fun hK0=> ?_);clear hK K;try simp only[zz])
 (((refine bE 11 ?_;try simp only[zz]));((refine bE 12 ?_;try simp only[zz]));((refine bE 13 ?_;try simp only[zz]));((refine bE 14 ?_;try simp only[zz]));((refine bE 15 ?_;try simp only[zz])))
 refine wpAnyH_done (by kernel_rfl) ?_ _
 have hx:=hx0.trans hK0.2
 go_wp2_with fail
 go_ret
 exact⟨by simp,hx⟩
theorem T_cells:cH Tryz.prog 37 28 (.agg #[.int .i64 0, .int .i64 0]) 2 16:=⟨Tryz.underlying37,by kernel_rfl,rfl,by decide⟩
def aU (n:Nat):Int:=match n with|1=>1|3=> -1|_=>0
def aV (n:Nat):Int:=match n with|0=> -1|2=>1|_=>0
theorem pX (n:Nat): -1≤aU n∧aU n≤1∧ -1≤aV n∧aV n≤1:=by
 unfold aU aV
 split<;>split<;>omega
def nbC (op:Int→Int→Bool) (x y:Int):Nat→List aB
 |0=>[]
 |k+1=>nbC op x y k++if op (x+aU k) (y+aV k)=true then[(x+aU k,y+aV k)] else[]
theorem oF (op:Int→Int→Bool) (x y:Int): ∀k,(nbC op x y k).length≤k
 |0=>Nat.le_refl _
 |k+1=>by
  have:=oF op x y k
  unfold nbC
  split<;>simp<;>omega
set_option maxRecDepth 100000 in
set_option maxHeartbeats 1000000 in
theorem rI {w:World} {W H:Int} {a:Option Addr} {l:List Int} {bx byy bw bh:Int} (L:LandAt w W H a l bx byy bw bh) (c:Nat) (x y:Int) (hx1: -1≤x) (hx2:x≤1000) (hy1: -1≤y) (hy2:y≤1000):
  Calls Tryz.prog 120 #[.agg #[.int .i64 W, .int .i64 H, .slice a l.length c, .int .i64 bx, .int .i64 byy, .int .i64 bw, .int .i64 bh], .agg #[.int .i64 x, .int .i64 y]] w fun e w'=> ∃v,e= .returned v∧Ext w w'∧Own cellE w' w.heap.size 28 v (nbC (bD l W bx byy bw bh) x y 4):=by
 have HL:=aA L
 obtain⟨n,hn⟩: ∃n,l.length=n:=⟨_,rfl⟩
 have HOP:=aA (fun(w':World) (hx:Ext w w') (k:Nat)=>pY (L.ext hx) c (x+aU k) (y+aV k))
 rw[hn]at HOP⊢
 generalize bD l W bx byy bw bh=op at *
 clear L HL hn
 go_enter Tryz.func120,Tryz.ntmps120
 go_wp2_with fail
 obtain⟨w0,hw0⟩: ∃w0,w0=((w.alloc (.cells #[.int .i64 W, .int .i64 H, .slice a n c, .int .i64 bx, .int .i64 byy, .int .i64 bw, .int .i64 bh] 147)).alloc (.cells #[.int .i64 x, .int .i64 y] 28)).alloc (.cells #[.int .i64 0, .int .i64 (-1), .int .i64 1, .int .i64 0, .int .i64 0, .int .i64 1, .int .i64 (-1), .int .i64 0] 28):=⟨_,rfl⟩
 have hx0:Ext w w0:=by rw[hw0];exact z_x
 have z0:w0.heap.size=w.heap.size+3:=by rw[hw0];simp
 have q0:w0.cell? ⟨w.heap.size,0,none⟩=some (.int .i64 W):=by rw[hw0];simp[go_sem]
 have q1:w0.cell? ⟨w.heap.size,1,none⟩=some (.int .i64 H):=by rw[hw0];simp[go_sem]
 have q2:w0.cell? ⟨w.heap.size,2,none⟩=some (.slice a n c):=by rw[hw0];simp[go_sem]
 have q3:w0.cell? ⟨w.heap.size,3,none⟩=some (.int .i64 bx):=by rw[hw0];simp[go_sem]
 have q4:w0.cell? ⟨w.heap.size,4,none⟩=some (.int .i64 byy):=by rw[hw0];simp[go_sem]
 have q5:w0.cell? ⟨w.heap.size,5,none⟩=some (.int .i64 bw):=by rw[hw0];simp[go_sem]
 have q6:w0.cell? ⟨w.heap.size,6,none⟩=some (.int .i64 bh):=by rw[hw0];simp[go_sem]
 have p0:w0.cell? ⟨w.heap.size+1,0,none⟩=some (.int .i64 x):=by rw[hw0];simp[go_sem]
 have p1:w0.cell? ⟨w.heap.size+1,1,none⟩=some (.int .i64 y):=by rw[hw0];simp[go_sem]
 have hd: ∀k,k<4→w0.cell? ⟨w.heap.size+2,k*2,none⟩=some (.int .i64 (aU k))∧w0.cell? ⟨w.heap.size+2,k*2+1,none⟩=some (.int .i64 (aV k)):=by
  intro k hk
  rw[hw0]
  obtain rfl|rfl|rfl|rfl:k=0∨k=1∨k=2∨k=3:=by omega
  all_goals (constructor<;>simp[go_sem,aU,aV])
 have HD:=aA hd
 rw[←hw0]
 clear hw0 hd
 go_loopw [5,15] (fun out i wr=> ∃k:Nat,k≤4∧i= .int .i64 k∧Own cellE wr (w.heap.size+3) 28 out (nbC op x y k)∧Below (w.heap.size+3) w0 wr) (fun _ i _=>4-(intOf i).toNat)
 case atStart=>exact⟨0,Nat.zero_le _,rfl,Own.nil _ _ _ _,Below.refl _ _⟩
 obtain⟨k,hk4,rfl,hown,hbel⟩:=hrel
 have HO:=aA hown
 have HB:=aA hbel
 have hz:=hbel.size
 have hxr:Ext w wr:=hx0.of_below hbel (by omega)
 have q0':=(hbel.cell (p:=⟨w.heap.size,0,none⟩) (show w.heap.size<w.heap.size+3 by omega)).trans q0
 have q1':=(hbel.cell (p:=⟨w.heap.size,1,none⟩) (show w.heap.size<w.heap.size+3 by omega)).trans q1
 have q2':=(hbel.cell (p:=⟨w.heap.size,2,none⟩) (show w.heap.size<w.heap.size+3 by omega)).trans q2
 have q3':=(hbel.cell (p:=⟨w.heap.size,3,none⟩) (show w.heap.size<w.heap.size+3 by omega)).trans q3
 have q4':=(hbel.cell (p:=⟨w.heap.size,4,none⟩) (show w.heap.size<w.heap.size+3 by omega)).trans q4
 have q5':=(hbel.cell (p:=⟨w.heap.size,5,none⟩) (show w.heap.size<w.heap.size+3 by omega)).trans q5
 have q6':=(hbel.cell (p:=⟨w.heap.size,6,none⟩) (show w.heap.size<w.heap.size+3 by omega)).trans q6
 have p0':=(hbel.cell (p:=⟨w.heap.size+1,0,none⟩) (show w.heap.size+1<w.heap.size+3 by omega)).trans p0
 have p1':=(hbel.cell (p:=⟨w.heap.size+1,1,none⟩) (show w.heap.size+1<w.heap.size+3 by omega)).trans p1
 have zr:w.heap.size+2<wr.heap.size:=by omega
 have zr1:w.heap.size+1<wr.heap.size:=by omega
 have zr0:w.heap.size<wr.heap.size:=by omega
 have zr3:w.heap.size+3≤wr.heap.size:=by omega
 have hlen:=oF op x y k
 have HSU:=aA (show nbC op x y (k+1)=nbC op x y k++if op (x+aU k) (y+aV k)=true then[(x+aU k,y+aV k)] else[] from rfl)
 have HX:=aA hxr
 clear q0 q1 q2 q3 q4 q5 q6 p0 p1 hown hbel
 by_cases hlt:k<4
 ·have d0:=(HB.out.cell (p:=⟨w.heap.size+2,k*2,none⟩) (show w.heap.size+2<w.heap.size+3 by omega)).trans (HD.out k hlt).1
  have d1:=(HB.out.cell (p:=⟨w.heap.size+2,k*2+1,none⟩) (show w.heap.size+2<w.heap.size+3 by omega)).trans (HD.out k hlt).2
  have hdb:=pX k
  have k1:IntKind.i64.wrap (x+aU k)=x+aU k:=IntWalk.i64_in _ (by omega)
  have k2:IntKind.i64.wrap (y+aV k)=y+aV k:=IntWalk.i64_in _ (by omega)
  have hli:(k:Int)<4:=by omega
  have HOk:=aA (fun(w':World) (hx:Ext w w')=>HOP.out w' hx k)
  generalize aU k=dx at *
  generalize aV k=dy at *
  generalize hob:op (x+dx) (y+dy)=ob at *
  have hx9:w.heap.size<wr.heap.size+1+1:=by omega
  cases ob
  ·go_wp2_with fail
   refine(HOk.out _ (HX.out.trans z_x)).mono ?_
   rintro e w2 ⟨rfl,hb2⟩
   have hx2:Ext wr w2:=z_x
   clear hb2
   go_wp2
   go_roundw
   case rel=>exact⟨k+1,by omega,by go_num,by rw[HSU.out];simpa using HO.out.ext hx2,HB.out.trans (Below.mono hx2 (by omega))⟩
   simp[intOf];omega
  go_wp2_with fail
  refine(HOk.out _ (HX.out.trans z_x)).mono ?_
  rintro e w2 ⟨rfl,hb2⟩
  have hx2:Ext wr w2:=z_x
  obtain⟨hc2,hf2⟩:=hb2.cells;have hz2:=hb2.size;(try simp only[zS]at hz2);have z2_0:w.heap.size<w2.heap.size:=(by omega)
  have e0:w2.cell? ⟨wr.heap.size+1,0,none⟩=some (.int .i64 (x+dx)):=by rw[hc2 _ _ (by simp)];simp[go_sem]
  have e1:w2.cell? ⟨wr.heap.size+1,1,none⟩=some (.int .i64 (y+dy)):=by rw[hc2 _ _ (by simp)];simp[go_sem]
  have hz2':wr.heap.size+1<w2.heap.size:=by omega
  have hz3:wr.heap.size≤w2.heap.size:=by omega
  have HX2:=aA hx2
  have HO2:=aA (HO.out.ext hx2)
  clear hc2 hf2 hb2 hz2 hx2
  go_wp2_with (at_builtin;refine dA cellE T_cells rfl _ _ rfl (w.heap.size+3) _ _ (nbC op x y k) rfl HO2.out (x+dx,y+dy) _ _ rfl _ rfl rfl (by omega) (by omega) (by omega) ?_;intro g9 c9 w9 hown9 hb9;have HO9:=aA hown9;clear hown9)
  go_roundw
  case rel=>exact⟨k+1,by omega,by go_num,by rw[HSU.out];simpa using HO9.out,HB.out.trans ((HX2.out.below.mono (by omega)).trans hb9)⟩
  simp[intOf];omega
 obtain rfl:k=4:=by omega
 go_wp2
 go_ret
 exact⟨_,rfl,HX.out,HO.out.lower (by omega)⟩
structure LandP (W H:Int) (l:List Int) (bx byy bw bh:Int):Prop where
 may:bW W H=true
 len:(l.length:Int)=W*H
 u16:cV l
 fits:jL W H bx byy bw bh=true
theorem LandAt.plain {w:World} {W H:Int} {a:Option Addr} {l:List Int} {bx byy bw bh:Int} (L:LandAt w W H a l bx byy bw bh):LandP W H l bx byy bw bh:=⟨L.may,L.len,L.u16,L.fits⟩
def vx (W:Int) (v:Nat):Int:=(v:Int)% W
def vy (W:Int) (v:Nat):Int:=(v:Int)/W
def aC (W:Int) (p:aB):Nat:=(p.2*W+p.1).toNat
theorem gE {W:Int} (hW:1≤W) (v:Nat):aC W (vx W v,vy W v)=v:=by
 unfold aC vx vy
 have:=Int.mul_ediv_add_emod (v:Int) W
 rw[Int.mul_comm]at this
 simp only
 omega
theorem bT {W x y:Int} (hx:0≤x) (hW:1≤W) (hy:0≤y):((aC W (x,y):Nat):Int)=y*W+x:=by
 unfold aC
 have:=Int.mul_nonneg hy (show 0≤W by omega)
 simp only
 omega
theorem dQ {W x y:Int} (hx:0≤x) (hxW:x<W) (hy:0≤y):vx W (aC W (x,y))=x:=by
 unfold vx
 rw[bT hx (by omega) hy,Int.add_comm,Int.add_mul_emod_self_right]
 exact Int.emod_eq_of_lt hx hxW
theorem dR {W x y:Int} (hx:0≤x) (hxW:x<W) (hy:0≤y):vy W (aC W (x,y))=y:=by
 unfold vy
 rw[bT hx (by omega) hy,Int.add_comm,Int.add_mul_ediv_right _ _ (by omega),Int.ediv_eq_zero_of_lt hx hxW]
 omega
theorem aMm {W H:Int} (hW:1≤W) {v:Nat} (hv:(v:Int)<W*H):0≤vx W v∧vx W v<W∧0≤vy W v∧vy W v<H:=by
 unfold vx vy
 refine⟨Int.emod_nonneg _ (by omega),Int.emod_lt_of_pos _ (by omega),Int.ediv_nonneg (by omega) (by omega),?_⟩
 exact Int.ediv_lt_of_lt_mul (by omega) (by rw[Int.mul_comm];exact hv)
theorem mem_nbC {op:Int→Int→Bool} {x y:Int} {p:aB}: ∀{n:Nat},p∈nbC op x y n↔ ∃k,k<n∧op (x+aU k) (y+aV k)=true∧p=(x+aU k,y+aV k)
 |0=>by simp[nbC]
 |n+1=>by
  unfold nbC
  rw[List.mem_append,mem_nbC]
  constructor
  ·rintro(⟨k,h1,h2⟩|h)
   ·exact⟨k,by omega,h2⟩
   split at h
   ·next ho=>exact⟨n,by omega,ho,by simpa using h⟩
   cases h
  rintro⟨k,h1,h2,h3⟩
  by_cases e:k=n
  ·subst e;right;rw[if_pos h2,h3];simp
  left;exact⟨k,by omega,h2,h3⟩
def opV (op:Int→Int→Bool) (W:Int) (N:Nat) (v:Nat):Bool:=decide (v<N)&&op (vx W v) (vy W v)
def aN3 (op:Int→Int→Bool) (W:Int) (v:Nat):List Nat:=(nbC op (vx W v) (vy W v) 4).map (aC W)
def opp (k:Nat):Nat:=match k with|0=>2|1=>3|2=>0|_=>1
theorem aMi {k:Nat}:opp k<4:=by unfold opp;split<;>omega
theorem rA {k:Nat} (hk:k<4):aU (opp k)= -aU k∧aV (opp k)= -aV k:=by
 obtain rfl|rfl|rfl|rfl:k=0∨k=1∨k=2∨k=3:=by omega
 all_goals (constructor<;>rfl)
section
variable {W H:Int} {l:List Int} {bx byy bw bh:Int}
theorem LandP.wh (L:LandP W H l bx byy bw bh):1≤W∧W≤256∧1≤H∧H≤256∧(l.length:Int)≤65536:=by
 obtain⟨a,b,c,d⟩:=mayB_true.1 L.may
 have:=cN (a:=W) (b:=H) (A:=256) (B:=256) (by omega) b (by omega) d
 exact⟨a,b,c,d,by have:=L.len;omega⟩
theorem LandP.in_ (L:LandP W H l bx byy bw bh) {x y:Int} (h:bO bx byy bw bh x y=true):0≤x∧x<W∧0≤y∧y<H:=by
 have:=fitsR_true.1 L.fits
 have:=hasB_true.1 h
 omega
theorem eQ {x y:Int} (h:bD l W bx byy bw bh x y=true):bO bx byy bw bh x y=true∧0<aL l W (x,y):=by
 simpa [bD] using h
theorem LandP.idx_lt (L:LandP W H l bx byy bw bh) {x y:Int} (h:0≤x∧x<W∧0≤y∧y<H):aC W (x,y)<l.length:=by
 have h1:=jO h.1 h.2.1 h.2.2.1 h.2.2.2
 have h2:=bT (W:=W) h.1 (by omega) h.2.2.1
 have:=L.len
 omega
theorem LandP.v_in (L:LandP W H l bx byy bw bh) {v:Nat} (hv:v<l.length):0≤vx W v∧vx W v<W∧0≤vy W v∧vy W v<H:=
 aMm L.wh.1 (by have:=L.len;omega)
theorem LandP.opV_idx (L:LandP W H l bx byy bw bh) {x y:Int} (h:0≤x∧x<W∧0≤y∧y<H):opV (bD l W bx byy bw bh) W l.length (aC W (x,y))=bD l W bx byy bw bh x y:=by
 unfold opV
 rw[dQ h.1 h.2.1 h.2.2.1,dR h.1 h.2.1 h.2.2.1,decide_eq_true (L.idx_lt h)]
 simp
theorem mJ (x y:Int):aL l W (x,y)=l.getD (aC W (x,y)) 0:=rfl
theorem LandP.cost_v (L:LandP W H l bx byy bw bh) (v:Nat):aL l W (vx W v,vy W v)=l.getD v 0:=by
 rw[mJ,gE L.wh.1]
def aE (L:LandP W H l bx byy bw bh):Net where
 n:=l.length
 op:=opV (bD l W bx byy bw bh) W l.length
 cost v:=l.getD v 0
 adj:=aN3 (bD l W bx byy bw bh) W
 pos v hv:=by
  unfold opV at hv
  simp only[Bool.and_eq_true]at hv
  have:=(eQ hv.2).2
  rw[L.cost_v]at this
  omega
 top v _:=by
  rw[←L.cost_v]
  exact(bX L.u16 W _).2
 lt v hv:=by
  unfold opV at hv
  simp only[Bool.and_eq_true,decide_eq_true_eq]at hv
  exact hv.1
 sym u v hu hv ha:=by
  obtain⟨p,hp,rfl⟩:=List.mem_map.1 ha
  obtain⟨k,hk,ho,rfl⟩:=mem_nbC.1 hp
  have hin:=L.in_ (eQ ho).1
  unfold opV at hv
  simp only[Bool.and_eq_true,decide_eq_true_eq]at hv
  refine List.mem_map.2 ⟨(vx W v,vy W v),mem_nbC.2 ⟨opp k,aMi,?_,?_⟩,gE L.wh.1 v⟩
  ·rw[dQ hin.1 hin.2.1 hin.2.2.1,dR hin.1 hin.2.1 hin.2.2.1,(rA hk).1,(rA hk).2]
   rw[show vx W v+aU k+ -aU k=vx W v by omega,show vy W v+aV k+ -aV k=vy W v by omega]
   exact hv.2
  rw[dQ hin.1 hin.2.1 hin.2.2.1,dR hin.1 hin.2.1 hin.2.2.1,(rA hk).1,(rA hk).2]
  rw[show vx W v+aU k+ -aU k=vx W v by omega,show vy W v+aV k+ -aV k=vy W v by omega]
theorem aFd (L:LandP W H l bx byy bw bh) {u v:Nat} (h:u∈(aE L).adj v):(aE L).op u=true:=by
 obtain⟨p,hp,rfl⟩:=List.mem_map.1 h
 obtain⟨k,hk,ho,rfl⟩:=mem_nbC.1 hp
 have hin:=L.in_ (eQ ho).1
 show opV _ _ _ _=true
 rw[L.opV_idx hin]
 exact ho
end
theorem aG4 (G:Net) (s:Nat) (hs:G.op s=true): ∃D,IsFar G s D:=by
 have e:aJ=18446744073709551615:=rfl
 have hdec: ∀v,∃d:Int,(0≤d∧d≤aJ)∧(∀c,Way G s v c→c<aJ→d≤c)∧(d<aJ→Way G s v d):=by
  intro v
  by_cases h: ∃c:Nat,Way G s v (c:Int)∧(c:Int)<aJ
  ·obtain⟨c0,h0,hl0⟩:=h
   have: ∀k c:Nat,c≤k→Way G s v (c:Int)→ ∃m:Nat,m≤c∧Way G s v (m:Int)∧ ∀c':Nat,Way G s v (c':Int)→m≤c':=by
    intro k
    induction k with
    |zero=>intro c hk hw;exact⟨c,Nat.le_refl _,hw,fun c' _=>by omega⟩
    |succ k ih=>
     intro c hk hw
     by_cases hex: ∃c',Way G s v ((c':Nat):Int)∧c'<c
     ·obtain⟨c',h1,h2⟩:=hex
      obtain⟨m,a1,a2,a3⟩:=ih c' (by omega) h1
      exact⟨m,by omega,a2,a3⟩
     exact⟨c,Nat.le_refl _,hw,fun c' hw'=>Nat.not_lt.1 fun hlt=>hex ⟨c',hw',hlt⟩⟩
   obtain⟨m,hm0,hm,hmin⟩:=this c0 c0 (Nat.le_refl _) h0
   exact⟨m,⟨by omega,by omega⟩,fun c' hw _=>by
    have h1:=hw.ends.2.2
    have:=hmin c'.toNat (hw.cast (by omega))
    omega,fun _=>hm⟩
  exact⟨aJ,⟨by omega,Int.le_refl _⟩,fun c hw hl=>absurd ⟨c.toNat,hw.cast (by have:=hw.ends.2.2;omega),by have:=hw.ends.2.2;omega⟩ h,fun h=>absurd h (Int.lt_irrefl _)⟩
 obtain⟨D,hD⟩:=Classical.axiomOfChoice hdec
 have hinf: ∀v,D v<aJ→Way G s v (D v):=fun v=>(hD v).2.2
 refine⟨D,?_,?_,fun v=>(hD v).1.1,fun v=>(hD v).1.2,?_,?_⟩
 ·intro _
  have h1:=(hD s).1.1
  have h2:=(hD s).2.1 0 (.start hs) (by omega)
  omega
 ·intro v hv
  by_cases h:D v<aJ
  ·have:=(hinf v h).ends.2.1
   rw[hv]at this;cases this
  have:=(hD v).1.2;omega
 ·intro v ho _ u hu huo hlt
  have hw:=hinf u (by have:=G.pos v ho;omega)
  exact(hD v).2.1 _ (.step hw hu ho) hlt
 intro v ho hvs hlt
 have hw:=hinf v hlt
 generalize hd:D v=d at hw
 cases hw with
 |start h=>exact absurd rfl hvs
 |step hw' hu ho'=>
  rename_i u c
  have hou:=hw'.ends
  have hp:=G.pos v ho
  have h1:=(hD u).2.1 _ hw' (by omega)
  have h2:=(hD v).2.1 _ (.step (hinf u (by omega)) hu ho) (by omega)
  exact⟨u,hu,hou.2.1,by omega⟩
theorem aCq (G:Net) (s:Nat): ∃D,IsFar G s D:=by
 cases h:G.op s
 ·exact⟨fun _=>aJ,⟨(fun k=>by rw[h]at k;cases k),(fun _ _=>rfl),(fun _=>by decide),(fun _=>Int.le_refl _),(fun v hv _ _ _ _ hlt=>by have:=G.pos v hv;have:aJ+G.cost v<aJ:=hlt;omega),(fun v _ _ hlt=>absurd hlt (Int.lt_irrefl _))⟩⟩
 exact aG4 G s h
end Go.Proofs.YtaellcgglldjaaaGreat

namespace Go.Proofs.YtaellcgglldjaaaGreat

def nG (p q:aB):Bool:=decide (p.2<q.2)||(decide (q.2=p.2)&&decide (p.1<q.1))
def fZ (W H s id:Int) (c:aB):Bool:=inB W H c.1 c.2&&decide (ofN W s c.1 c.2=id)
def cP (W H s id:Int) (l:List aB) (i:Nat):Int:=if fZ W H s id (l.getD i (0,0))=false then 10 else if 0<i∧nG (l.getD (i-1) (0,0)) (l.getD i (0,0))=false then 11 else 0
def cI (W H s id:Int) (l:List aB):Nat→Int
 |0=>0
 |k+1=>if cI W H s id l k=0 then cP W H s id l k else cI W H s id l k
theorem pU {W H s id:Int} {l:List aB} {k:Nat} (h:cI W H s id l k≠0): ∀m,cI W H s id l (k+m)=cI W H s id l k
 |0=>rfl
 |m+1=>by
  show(if cI W H s id l (k+m)=0 then _ else _)=_
  have ih:=pU h m
  rw[if_neg (by rw[ih];exact h)]
  exact ih
theorem aFs {W H s id:Int} {l:List aB} {k:Nat} (h:cI W H s id l k=0) (hb:cP W H s id l k≠0) {n:Nat} (hn:k<n):cI W H s id l n=cP W H s id l k:=by
 have h1:cI W H s id l (k+1)=cP W H s id l k:=if_pos h
 obtain⟨m,rfl⟩: ∃m,n=k+1+m:=⟨n-(k+1),by omega⟩
 rw[pU (by rw[h1];exact hb),h1]
theorem nO {W H s id:Int} {l:List aB} {k:Nat} (h:cI W H s id l k=0) (hb:cP W H s id l k=0):cI W H s id l (k+1)=0:=(if_pos h).trans hb
theorem rG {W H s id:Int} {l:List aB}: ∀{n:Nat},cI W H s id l n=0→ ∀k,k<n→cP W H s id l k=0
 |0,_,k,hk=>absurd hk (Nat.not_lt_zero k)
 |n+1,h,k,hk=>by
  have h1:(if cI W H s id l n=0 then cP W H s id l n else cI W H s id l n)=0:=h
  split at h1
  ·next h2=>
   by_cases e:k=n
   ·rw[e];exact h1
   exact rG h2 k (by omega)
  next h2=>exact absurd h1 h2
theorem yE {W H s id:Int} {l:List aB} {k:Nat} (h:cP W H s id l k=0):fZ W H s id (l.getD k (0,0))=true:=by
 unfold cP at h
 split at h
 ·cases h
 next h1=>cases hi:fZ W H s id (l.getD k (0,0));exact absurd hi h1;rfl
def dM (W H:Int) (n:Nat) (PW PH s id:Int) (l:List aB):Int:=
 if aX W H n=0 then(if PW=W∧PH=H then(if aK PW PH s=true then(if bad PW PH s id=true then 10 else cI PW PH s id l l.length) else 1) else 1) else aX W H n
theorem innerE_ok {W H:Int} {n:Nat} {PW PH s id:Int} {l:List aB}:dM W H n PW PH s id l=0↔aX W H n=0∧PW=W∧PH=H∧aK W H s=true∧(0≤id∧id<cnt W H s)∧cI W H s id l l.length=0:=by
 unfold dM
 constructor
 ·intro h
  split at h
  ·next h1=>
   split at h
   ·next h2=>
    obtain⟨rfl,rfl⟩:=h2
    split at h
    ·next h3=>
     split at h
     ·cases h
     next h4=>exact⟨h1,rfl,rfl,h3,bad_false_iff.1 (by simpa using h4),h⟩
    cases h
   cases h
  next h1=>exact absurd h h1
 rintro⟨h1,rfl,rfl,h3,h4,h5⟩
 rw[if_pos h1,if_pos ⟨rfl,rfl⟩,if_pos h3,if_neg (by rw[bad_false_iff.2 h4];simp),h5]
def fE (W H s id:Int) (l:List Int):Prop:=LandP W H l (aR W s id) (aO W s id) (aZ W s id) (bA W H s id)
theorem aL4 {W H s id:Int} {l:List Int} (hc:aX W H l.length=0) (hr:aK W H s=true) (hi:0≤id∧id<cnt W H s) (hu:cV l):fE W H s id l:=by
 obtain⟨hm,hl⟩:=checkE_ok.1 hc
 exact⟨hm,hl,hu,aIz hr hi.1 hi.2⟩
theorem iN {W H s id:Int} (hr:aK W H s=true) (hi:0≤id∧id<cnt W H s) (c:aB):fZ W H s id c=bO (aR W s id) (aO W s id) (aZ W s id) (bA W H s id) c.1 c.2:=by
 unfold fZ
 have hh: ∀b,dE c.1 c.2 (bJ W H s id)=b→bO (aR W s id) (aO W s id) (aZ W s id) (bA W H s id) c.1 c.2=b:=fun b h=>by rw[←h];rfl
 cases hb:inB W H c.1 c.2
 ·rw[hh _ (aJ9 hr hb hi.1 hi.2)];rfl
 have h:=kB hr hb hi.1 hi.2
 rw[Bool.true_and]
 by_cases e:id=ofN W s c.1 c.2
 ·rw[hh _ (h.2 e)];simpa using e.symm
 rw[hh false (by cases k:dE c.1 c.2 (bJ W H s id);rfl;exact absurd (h.1 k) e)]
 simpa using fun k=>e k.symm
noncomputable def cL {W H:Int} {l:List Int} {bx byy bw bh:Int} (L:LandP W H l bx byy bw bh) (c:aB):Nat→Int:=Classical.choose (aCq (aE L) (aC W c))
theorem eY {W H:Int} {l:List Int} {bx byy bw bh:Int} (L:LandP W H l bx byy bw bh) (c:aB):IsFar (aE L) (aC W c) (cL L c):=Classical.choose_spec (aCq (aE L) (aC W c))
theorem oU {W H:Int} {l:List Int} {bx byy bw bh:Int} (L:LandP W H l bx byy bw bh) {c:aB} {D:Nat→Int} (F:IsFar (aE L) (aC W c) D) (v:Nat):D v=cL L c v:=F.same (eY L c) v
noncomputable def fS {W H:Int} {l:List Int} {bx byy bw bh:Int} (L:LandP W H l bx byy bw bh) (cs:List aB) (c:aB):List Int:=cs.map (fun q=>cL L c (aC W q))
end Go.Proofs.YtaellcgglldjaaaGreat

namespace Go.Proofs.YtaellcgglldjaaaGreat
open Go.RowKit
def aAb (G:Int→Int→List (aB×aB)) (W H s a:Int):List (aB×aB):=((cG (aQ W H s a)).filter (fun b=>decide (a<b))).flatMap (G a)
def mE (G:Int→Int→List (aB×aB)) (W H s:Int) (n:Nat):List (aB×aB):=(List.range n).flatMap fun k:Nat=>aAb G W H s (k:Int)
theorem aFf (G:Int→Int→List (aB×aB)) (W H s:Int) (n:Nat):mE G W H s (n+1)=mE G W H s n++aAb G W H s (n:Int):=by
 unfold mE;rw[List.range_succ,List.flatMap_append];simp
theorem aCf {G:Int→Int→List (aB×aB)} {l:List Int} {W H s:Int} {n:Nat} (hr:aK W H s=true)
  (hG: ∀a b,0≤a→a<n→b∈aQ W H s a→a<b→G a b=btw l W H s a b):mE G W H s n=ofG l W H s n:=by
 unfold mE ofG
 refine jM fun k hk=> ?_
 rw[List.mem_range]at hk
 unfold aAb qN
 have e:(cG (aQ W H s (k:Int))).filter (fun b=>decide ((k:Int)<b))=(cG (aQ W H s (k:Int))).filter (fun b=>decide ((k:Int)≤b)):=by
  refine List.filter_congr fun b hb=> ?_
  have hb':=(dO _).mem_iff.1 hb
  have hne:b≠(k:Int):=by
   rintro rfl
   have h:=fV (id:=(k:Int)) hr
   unfold eP at h
   simp at h
   exact h hb'
  exact decide_eq_decide.2 (by omega)
 rw[←e]
 refine jM fun b hb=> ?_
 obtain⟨h1,h2⟩:=List.mem_filter.1 hb
 exact hG _ _ (by omega) (by omega) ((dO _).mem_iff.1 h1) (by simpa using h2)
structure Good (W H s:Int) (l:List Int):Prop where
 ok:aX W H l.length=0
 right:aK W H s=true
 u16:cV l
theorem Good.box {W H s:Int} {l:List Int} (g:Good W H s l) {id:Int} (hi:0≤id∧id<cnt W H s):fE W H s id l:=aL4 g.ok g.right hi g.u16
abbrev Tab:=List aB×List (List Int)
open Classical in
noncomputable def aKa (W H s:Int) (l:List Int) (id:Int) (cs:List aB):Tab:=(cs,if h:fE W H s id l then cs.map (fS h cs) else[])
theorem rD {W H s id:Int} {l:List Int} (L:fE W H s id l) (cs:List aB):aKa W H s l id cs=(cs,cs.map (fS L cs)):=by
 unfold aKa;rw[dif_pos L]
def aD (W H s:Int) (l:List Int):List (aB×aB):=ofG l W H s (cnt W H s).toNat
def bR (W H s:Int) (l:List Int) (id:Int):List aB:=mH W H s id (aD W H s l)
noncomputable def dK (W H s:Int) (l:List Int) (id:Int):Tab:=aKa W H s l id (bR W H s l id)
end Go.Proofs.YtaellcgglldjaaaGreat

