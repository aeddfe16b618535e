/- Part of a proof: HeapA. -/
import Derived.Test.YtaellcgglldjaaaGreatHq07
import Derived.Test.YtaellcgglldjaaaGreatHq08
import Derived.Test.YtaellcgglldjaaaGreatHq03
import Derived.Test.YtaellcgglldjaaaGreatHq02
set_option linter.all false
set_option linter.unusedVariables false
set_option linter.unusedSimpArgs false
namespace Go.Proofs.YtaellcgglldjaaaGreat
open Go.RowKit
def eC (k:fC):Value:= .agg #[.int .u64 k.1.1, .int .u64 k.1.2, .int .i64 k.2.1, .int .i64 k.2.2]
def zW (t:aN):Value:= .agg #[.int .i64 t.1, .int .u64 t.2.1.1, .int .u64 t.2.1.2, .int .i64 t.2.2.1, .int .i64 t.2.2.2]
theorem uW (a b:fC) (w:World):Calls Tryz.prog 146 #[eC a,eC b] w fun e w'=>e= .returned (.bool (bE a b))∧Ext w w':=by
 obtain⟨⟨f,h⟩,y,x⟩:=a
 obtain⟨⟨f',h'⟩,y',x'⟩:=b
 unfold eC
 simp only
 by_cases e1:f=f'
 ·have q1:(f !=f')=false:=by simpa using e1
  by_cases e2:h=h'
  ·have q2:(h !=h')=false:=by simpa using e2
   by_cases e3:y=y'
   ·have q3:(y !=y')=false:=by simpa using e3
    have e:bE ((f,h),(y,x)) ((f',h'),(y',x'))=decide (x<x'):=by simp[bE,e1,e2,e3]
    rw[e]
    clear e e1 e2 e3
    go_enter Tryz.func146,Tryz.ntmps146
    go_wp2
    go_ret
    exact⟨rfl,z_x⟩
   ·have q3:(y !=y')=true:=by simpa using e3
    have e:bE ((f,h),(y,x)) ((f',h'),(y',x'))=decide (y<y'):=by simp[bE,e1,e2,e3]
    rw[e]
    clear e e1 e2 e3
    go_enter Tryz.func146,Tryz.ntmps146
    go_wp2
    go_ret
    exact⟨rfl,z_x⟩
  ·have q2:(h !=h')=true:=by simpa using e2
   have e:bE ((f,h),(y,x)) ((f',h'),(y',x'))=decide (h<h'):=by simp[bE,e1,e2]
   rw[e]
   clear e e1 e2
   go_enter Tryz.func146,Tryz.ntmps146
   go_wp2
   go_ret
   exact⟨rfl,z_x⟩
 ·have q1:(f !=f')=true:=by simpa using e1
  have e:bE ((f,h),(y,x)) ((f',h'),(y',x'))=decide (f<f'):=by simp[bE,e1]
  rw[e]
  clear e e1
  go_enter Tryz.func146,Tryz.ntmps146
  go_wp2
  go_ret
  exact⟨rfl,z_x⟩
theorem aL1 (a b:fC) (w:World):(Op.equalIn 10000 181 (eC a) (eC b)).run Tryz.prog w= .ok (decide (a=b)) w:=by
 have u:Tryz.prog.underlying 181=some (.struct (Tryz.prog.fieldsOf 181)):=by kernel_rfl
 have s:Tryz.prog.stoodInHeld 181=false:=by kernel_rfl
 obtain⟨⟨f,h⟩,y,x⟩:=a
 obtain⟨⟨f',h'⟩,y',x'⟩:=b
 have e:decide (((f,h),(y,x))=((f',h'),(y',x')))=(f==f'&&(h==h'&&(y==y'&&x==x'))):=by
  rw[Bool.eq_iff_iff];simp[and_assoc]
 rw[e]
 unfold eC
 rw[run_equalIn_struct w 9999 181 _ _ u s]
 cases h1:f==f'<;>cases h2:h==h'<;>cases h3:y==y'<;>cases h4:x==x'<;>simp[go_sem,h1,h2,h3,h4]
theorem tA (a b:Int) (w:World) (h1:0≤a) (h2:0≤b) (h3:a≤18446744073709551615) (h4:b≤18446744073709551615):
  Calls Tryz.prog 91 #[.int .u64 a, .int .u64 b] w fun e w'=>e= .returned (.int .u64 (if a+b≤18446744073709551615 then a+b else 18446744073709551615))∧Ext w w':=by
 have k1:IntKind.u64.wrap (18446744073709551615-b)=18446744073709551615-b:=by unfold IntKind.wrap;simp[IntKind.bits,IntKind.signed];omega
 by_cases h:a+b≤18446744073709551615
 ·have k2:IntKind.u64.wrap (a+b)=a+b:=by unfold IntKind.wrap;simp[IntKind.bits,IntKind.signed];omega
  have hd:decide (18446744073709551615-b<a)=false:=by simp;omega
  rw[if_pos h]
  clear h
  go_enter Tryz.func91,Tryz.ntmps91
  go_wp2
  go_ret
  exact⟨rfl,z_x⟩
 ·have hd:decide (18446744073709551615-b<a)=true:=by simp;omega
  rw[if_neg h]
  clear h
  go_enter Tryz.func91,Tryz.ntmps91
  go_wp2
  go_ret
  exact⟨rfl,z_x⟩
structure LandAt (w:World) (W H:Int) (a:Option Addr) (l:List Int) (bx byy bw bh:Int):Prop where
 may:bM W H=true
 len:(l.length:Int)=W*H
 row:Row16 w a l
 u16:cS l
 fits:iE W H bx byy bw bh=true
theorem LandAt.ext {w w':World} {W H:Int} {a:Option Addr} {l:List Int} {bx byy bw bh:Int} (L:LandAt w W H a l bx byy bw bh) (e:Ext w w'):LandAt w' W H a l bx byy bw bh:={L with row:=L.row.ext e}
def aY (l:List Int) (W bx byy bw bh x y:Int):Bool:=bL bx byy bw bh x y&&decide (0<aH l W (x,y))
theorem mZ (W H:Int) (a:Option Addr) (n c:Nat) (bx byy bw bh x y:Int) (w:World) (hm:bM W H=true) (h1:0≤x) (h2:x<W) (h3:0≤y) (h4:y<H):
  Calls Tryz.prog 69 #[.agg #[.int .i64 W, .int .i64 H, .slice a n c, .int .i64 bx, .int .i64 byy, .int .i64 bw, .int .i64 bh], .agg #[.int .i64 x, .int .i64 y]] w fun e w'=>e= .returned (.int .i64 (y*W+x))∧Ext w w':=by
 obtain⟨m1,m2,m3,m4⟩:=mayB_true.1 hm
 have ib:=iH h1 h2 h3 h4
 have wb:=cP (a:=W) (b:=H) (A:=256) (B:=256) (by omega) m2 (by omega) m4
 have k1:IntKind.i64.wrap (y*W)=y*W:=IntWalk.i64_in _ (by omega)
 have k2:IntKind.i64.wrap (y*W+x)=y*W+x:=IntWalk.i64_in _ (by omega)
 go_enter Tryz.func69,Tryz.ntmps69
 go_wp2
 go_ret
 exact⟨rfl,z_x⟩
theorem qY (f x y:Int) (w:World):Calls Tryz.prog 119 #[.int .u64 f, .agg #[.int .i64 x, .int .i64 y]] w fun e w'=>e= .returned (eC ((f,0),(y,x)))∧Ext w w':=by
 unfold eC
 go_enter Tryz.func119,Tryz.ntmps119
 go_wp2
 exact bodyPost_ret (v:= .agg #[.int .u64 f, .int .u64 0, .int .i64 y, .int .i64 x]) (by simp[results,Tryz.results119,go_sem, *]) rfl ⟨rfl,z_x⟩
set_option maxRecDepth 100000 in
theorem oW {w:World} {W H:Int} {a:Option Addr} {l:List Int} {bx byy bw bh:Int} (L:LandAt w W H a l bx byy bw bh) (c:Nat) (x y:Int):
  Calls Tryz.prog 118 #[.agg #[.int .i64 W, .int .i64 H, .slice a l.length c, .int .i64 bx, .int .i64 byy, .int .i64 bw, .int .i64 bh], .agg #[.int .i64 x, .int .i64 y]] w fun e w'=>e= .returned (.bool (aY l W bx byy bw bh x y))∧Ext w w':=by
 obtain⟨hm,hl,hr,hu,hf⟩:=L
 have HG:=aA (fun w'=>rB bx byy bw bh x y w')
 rw[tQ hm hf]at HG
 unfold aY
 cases hh:bL bx byy bw bh x y
 ·rw[hh]at HG
  obtain⟨n,hn⟩: ∃n,l.length=n:=⟨_,rfl⟩
  rw[hn]
  clear hl hr hu hf hh hn
  simp only[Bool.false_and]
  go_enter Tryz.func118,Tryz.ntmps118
  go_wp2_with fail
  obtain⟨w0,hw0⟩: ∃w0,w0=(w.alloc (.cells #[.int .i64 W, .int .i64 H, .slice a n c, .int .i64 bx, .int .i64 byy, .int .i64 bw, .int .i64 bh] 147)).alloc (.cells #[.int .i64 x, .int .i64 y] 28):=⟨_,rfl⟩
  have hx0:Ext w w0:=by rw[hw0];exact z_x
  have z0:w.heap.size<w0.heap.size:=by rw[hw0];simp;omega
  have z1:w.heap.size+1<w0.heap.size:=by rw[hw0];simp
  have q0:w0.cell? ⟨w.heap.size,0,none⟩=some (.int .i64 W):=by rw[hw0];simp[go_sem]
  have q1:w0.cell? ⟨w.heap.size,1,none⟩=some (.int .i64 H):=by rw[hw0];simp[go_sem]
  have q2:w0.cell? ⟨w.heap.size,2,none⟩=some (.slice a n c):=by rw[hw0];simp[go_sem]
  have q3:w0.cell? ⟨w.heap.size,3,none⟩=some (.int .i64 bx):=by rw[hw0];simp[go_sem]
  have q4:w0.cell? ⟨w.heap.size,4,none⟩=some (.int .i64 byy):=by rw[hw0];simp[go_sem]
  have q5:w0.cell? ⟨w.heap.size,5,none⟩=some (.int .i64 bw):=by rw[hw0];simp[go_sem]
  have q6:w0.cell? ⟨w.heap.size,6,none⟩=some (.int .i64 bh):=by rw[hw0];simp[go_sem]
  have p0:w0.cell? ⟨w.heap.size+1,0,none⟩=some (.int .i64 x):=by rw[hw0];simp[go_sem]
  have p1:w0.cell? ⟨w.heap.size+1,1,none⟩=some (.int .i64 y):=by rw[hw0];simp[go_sem]
  rw[←hw0]
  clear hw0
  refine wp_region_held_drew (S:=(fun W=>(∀b o,b<w0.heap.size→W.cell? ⟨b,o,none⟩=w0.cell? ⟨b,o,none⟩)∧Ext w0 W)) (by kernel_rfl) (by first|with_reducible exact aM _|exact aG z_x) (fun hHeld=> ?_)
  (((refine wpAnyH_take (i:=0) (oi:= ?g1_o) (v:= ?g1_v) ?g1_hi (by kernel_rfl) (by kernel_rfl) (by kernel_rfl) ?g1_hq ?g1_hy (by assumption) ?g1_gr;(case g1_hi=>(simp only[z_0,z_2];rfl));(case g1_hq=>exact fun _ _ _ h=>h);(case g1_hy=>(refine Or.inl ⟨by rfl,?_⟩;intro w hSw;(try dsimp only at hSw);go_simp;try with_reducible rfl));try simp only[Act.put,z_3,z_4,z_5]));((refine wpAnyH_take (i:=1) (oi:= ?g2_o) (v:= ?g2_v) ?g2_hi (by kernel_rfl) (by kernel_rfl) (by kernel_rfl) ?g2_hq ?g2_hy (by assumption) ?g2_gr;(case g2_hi=>(simp only[z_0,z_1,z_2];rfl));(case g2_hq=>exact fun _ _ _ h=>h);(case g2_hy=>(refine Or.inl ⟨by rfl,?_⟩;intro w hSw;(try dsimp only at hSw);go_simp;try with_reducible rfl));try simp only[Act.put,z_3,z_4,z_5]));((refine wpAnyH_take (i:=2) (oi:= ?g3_o) (v:= ?g3_v) ?g3_hi (by kernel_rfl) (by kernel_rfl) (by kernel_rfl) ?g3_hq ?g3_hy (by assumption) ?g3_gr;(case g3_hi=>(simp only[z_0,z_1,z_2];rfl));(case g3_hq=>exact fun _ _ _ h=>h);(case g3_hy=>(refine Or.inl ⟨by rfl,?_⟩;intro w hSw;(try dsimp only at hSw);go_simp;try with_reducible rfl));try simp only[Act.put,z_3,z_4,z_5])))
  (refine wpAnyH_ready (rs:=[3]) (by kernel_rfl) (by simp) ?_;refine AllReadyH.cons (o:= ?g4_o) ?g4_hi (fun K hK=> ?_) AllReadyH.nil;(case g4_hi=>(simp only[z_0,z_1,z_2];rfl));go_simp;(go_at_call 67;refine(HG.out _).mono ?_;rintro e w1 ⟨rfl,hb1⟩);go_wp2_with fail;refine hK.out _ _ (aG z_x) (fun hHeld=> ?_);clear hK K;try simp only[Act.put,z_3,z_4,z_5])
  ((refine wpAnyH_take (i:=4) (oi:= ?g5_o) (v:= ?g5_v) ?g5_hi (by kernel_rfl) (by kernel_rfl) (by kernel_rfl) ?g5_hq ?g5_hy (by assumption) ?g5_gr;(case g5_hi=>(simp only[z_0,z_1,z_2];rfl));(case g5_hq=>exact fun _ _ _ h=>h);(case g5_hy=>(refine Or.inl ⟨by rfl,?_⟩;intro w hSw;(try dsimp only at hSw);go_simp;try with_reducible rfl));try simp only[Act.put,z_3,z_4,z_5]))
  (((refine wpAnyH_take (i:=5) (oi:= ?g6_o) (v:=undef) ?g6_hi (by kernel_rfl) (by kernel_rfl) (by kernel_rfl) ?g6_hq ?g6_hy (by assumption) ?g6_gr;(case g6_hi=>(simp only[z_0,z_1,z_2];rfl));(case g6_hq=>exact fun _ _ _ h=>h);(case g6_hy=>exact Or.inr ⟨by rfl,rfl⟩);try simp only[Act.put,z_3,z_4,z_5]));((refine wpAnyH_take (i:=6) (oi:= ?g7_o) (v:=undef) ?g7_hi (by kernel_rfl) (by kernel_rfl) (by kernel_rfl) ?g7_hq ?g7_hy (by assumption) ?g7_gr;(case g7_hi=>(simp only[z_0,z_1,z_2];rfl));(case g7_hq=>exact fun _ _ _ h=>h);(case g7_hy=>exact Or.inr ⟨by rfl,rfl⟩);try simp only[Act.put,z_3,z_4,z_5]));((refine wpAnyH_take (i:=7) (oi:= ?g8_o) (v:=undef) ?g8_hi (by kernel_rfl) (by kernel_rfl) (by kernel_rfl) ?g8_hq ?g8_hy (by assumption) ?g8_gr;(case g8_hi=>(simp only[z_0,z_1,z_2];rfl));(case g8_hq=>exact fun _ _ _ h=>h);(case g8_hy=>exact Or.inr ⟨by rfl,rfl⟩);try simp only[Act.put,z_3,z_4,z_5]));((refine wpAnyH_take (i:=8) (oi:= ?g9_o) (v:=undef) ?g9_hi (by kernel_rfl) (by kernel_rfl) (by kernel_rfl) ?g9_hq ?g9_hy (by assumption) ?g9_gr;(case g9_hi=>(simp only[z_0,z_1,z_2];rfl));(case g9_hq=>exact fun _ _ _ h=>h);(case g9_hy=>exact Or.inr ⟨by rfl,rfl⟩);try simp only[Act.put,z_3,z_4,z_5]));((refine wpAnyH_take (i:=9) (oi:= ?g10_o) (v:=undef) ?g10_hi (by kernel_rfl) (by kernel_rfl) (by kernel_rfl) ?g10_hq ?g10_hy (by assumption) ?g10_gr;(case g10_hi=>(simp only[z_0,z_1,z_2];rfl));(case g10_hq=>exact fun _ _ _ h=>h);(case g10_hy=>exact Or.inr ⟨by rfl,rfl⟩);try simp only[Act.put,z_3,z_4,z_5]));((refine wpAnyH_take (i:=10) (oi:= ?g11_o) (v:=undef) ?g11_hi (by kernel_rfl) (by kernel_rfl) (by kernel_rfl) ?g11_hq ?g11_hy (by assumption) ?g11_gr;(case g11_hi=>(simp only[z_0,z_1,z_2];rfl));(case g11_hq=>exact fun _ _ _ h=>h);(case g11_hy=>exact Or.inr ⟨by rfl,rfl⟩);try simp only[Act.put,z_3,z_4,z_5]));((refine wpAnyH_take (i:=11) (oi:= ?g12_o) (v:=undef) ?g12_hi (by kernel_rfl) (by kernel_rfl) (by kernel_rfl) ?g12_hq ?g12_hy (by assumption) ?g12_gr;(case g12_hi=>(simp only[z_0,z_1,z_2];rfl));(case g12_hq=>exact fun _ _ _ h=>h);(case g12_hy=>exact Or.inr ⟨by rfl,rfl⟩);try simp only[Act.put,z_3,z_4,z_5]));((refine wpAnyH_take (i:=12) (oi:= ?g13_o) (v:=undef) ?g13_hi (by kernel_rfl) (by kernel_rfl) (by kernel_rfl) ?g13_hq ?g13_hy (by assumption) ?g13_gr;(case g13_hi=>(simp only[z_0,z_1,z_2];rfl));(case g13_hq=>exact fun _ _ _ h=>h);(case g13_hy=>exact Or.inr ⟨by rfl,rfl⟩);try simp only[Act.put,z_3,z_4,z_5]));((refine wpAnyH_take (i:=13) (oi:= ?g14_o) (v:=undef) ?g14_hi (by kernel_rfl) (by kernel_rfl) (by kernel_rfl) ?g14_hq ?g14_hy (by assumption) ?g14_gr;(case g14_hi=>(simp only[z_0,z_1,z_2];rfl));(case g14_hq=>exact fun _ _ _ h=>h);(case g14_hy=>exact Or.inr ⟨by rfl,rfl⟩);try simp only[Act.put,z_3,z_4,z_5])))
  (((refine wpAnyH_take (i:=14) (oi:= ?g15_o) (v:= ?g15_v) ?g15_hi (by kernel_rfl) (by kernel_rfl) (by kernel_rfl) ?g15_hq ?g15_hy (by assumption) ?g15_gr;(case g15_hi=>(simp only[z_0,z_1,z_2];rfl));(case g15_hq=>exact fun _ _ _ h=>h);(case g15_hy=>(refine Or.inl ⟨by rfl,?_⟩;intro w hSw;(try dsimp only at hSw);go_simp;try with_reducible rfl));try simp only[Act.put,z_3,z_4,z_5]));((refine wpAnyH_take (i:=15) (oi:= ?g16_o) (v:= ?g16_v) ?g16_hi (by kernel_rfl) (by kernel_rfl) (by kernel_rfl) ?g16_hq ?g16_hy (by assumption) ?g16_gr;(case g16_hi=>(simp only[z_0,z_1,z_2];rfl));(case g16_hq=>exact fun _ _ _ h=>h);(case g16_hy=>(refine Or.inl ⟨by rfl,?_⟩;intro w hSw;(try dsimp only at hSw);go_simp;try with_reducible rfl));try simp only[Act.put,z_3,z_4,z_5])))
  refine wpAnyH_done (by kernel_rfl) ?_ _
  have hx:=hx0.trans hHeld.2
  go_wp2_with fail
  go_ret
  exact⟨rfl,hx⟩
 ·rw[hh]at HG
  obtain⟨m1,m2,m3,m4⟩:=mayB_true.1 hm
  have ff:=fitsR_true.1 hf
  have h9:=hasB_true.1 hh
  have h1:0≤x:=by omega
  have h2:x<W:=by omega
  have h3:0≤y:=by omega
  have h4:y<H:=by omega
  obtain⟨b,off,rfl,hb,hc⟩:=fO hr hl h1 h2 h3 h4
  have cb:=bI hu W (x,y)
  have ib:=iH h1 h2 h3 h4
  have i0:0≤y*W+x:=by omega
  have ib2:y*W+x<(l.length:Int):=by omega
  have HA:=aA (fun n w'=>mZ W H (some ⟨b,off,none⟩) n c bx byy bw bh x y w' hm h1 h2 h3 h4)
  simp only[Bool.true_and]
  generalize aH l W (x,y)=v at *
  obtain⟨n,hn⟩: ∃n,l.length=n:=⟨_,rfl⟩
  rw[hn]at ib2⊢
  clear hl hr hu hf hh h9 ff hm m1 m2 m3 m4 hn h1 h2 h3 h4 ib
  generalize y*W+x=k at *
  go_enter Tryz.func118,Tryz.ntmps118
  go_wp2_with fail
  obtain⟨w0,hw0⟩: ∃w0,w0=(w.alloc (.cells #[.int .i64 W, .int .i64 H, .slice (some ⟨b,off,none⟩) n c, .int .i64 bx, .int .i64 byy, .int .i64 bw, .int .i64 bh] 147)).alloc (.cells #[.int .i64 x, .int .i64 y] 28):=⟨_,rfl⟩
  have hx0:Ext w w0:=by rw[hw0];exact z_x
  have z0:w.heap.size<w0.heap.size:=by rw[hw0];simp;omega
  have z1:w.heap.size+1<w0.heap.size:=by rw[hw0];simp
  have q0:w0.cell? ⟨w.heap.size,0,none⟩=some (.int .i64 W):=by rw[hw0];simp[go_sem]
  have q1:w0.cell? ⟨w.heap.size,1,none⟩=some (.int .i64 H):=by rw[hw0];simp[go_sem]
  have q2:w0.cell? ⟨w.heap.size,2,none⟩=some (.slice (some ⟨b,off,none⟩) n c):=by rw[hw0];simp[go_sem]
  have q3:w0.cell? ⟨w.heap.size,3,none⟩=some (.int .i64 bx):=by rw[hw0];simp[go_sem]
  have q4:w0.cell? ⟨w.heap.size,4,none⟩=some (.int .i64 byy):=by rw[hw0];simp[go_sem]
  have q5:w0.cell? ⟨w.heap.size,5,none⟩=some (.int .i64 bw):=by rw[hw0];simp[go_sem]
  have q6:w0.cell? ⟨w.heap.size,6,none⟩=some (.int .i64 bh):=by rw[hw0];simp[go_sem]
  have p0:w0.cell? ⟨w.heap.size+1,0,none⟩=some (.int .i64 x):=by rw[hw0];simp[go_sem]
  have p1:w0.cell? ⟨w.heap.size+1,1,none⟩=some (.int .i64 y):=by rw[hw0];simp[go_sem]
  have hc0:=(hx0.cell (p:=⟨b,off+k.toNat,none⟩) hb).trans hc
  have hb0:b<w0.heap.size:=Nat.lt_of_lt_of_le hb hx0.size
  clear hc hb
  rw[←hw0]
  clear hw0
  refine wp_region_held_drew (S:=(fun W=>(∀b o,b<w0.heap.size→W.cell? ⟨b,o,none⟩=w0.cell? ⟨b,o,none⟩)∧Ext w0 W)) (by kernel_rfl) (by first|with_reducible exact aM _|exact aG z_x) (fun hHeld=> ?_)
  (((refine wpAnyH_take (i:=0) (oi:= ?g17_o) (v:= ?g17_v) ?g17_hi (by kernel_rfl) (by kernel_rfl) (by kernel_rfl) ?g17_hq ?g17_hy (by assumption) ?g17_gr;(case g17_hi=>(simp only[z_0,z_2];rfl));(case g17_hq=>exact fun _ _ _ h=>h);(case g17_hy=>(refine Or.inl ⟨by rfl,?_⟩;intro w hSw;(try dsimp only at hSw);go_simp;try with_reducible rfl));try simp only[Act.put,z_3,z_4,z_5]));((refine wpAnyH_take (i:=1) (oi:= ?g18_o) (v:= ?g18_v) ?g18_hi (by kernel_rfl) (by kernel_rfl) (by kernel_rfl) ?g18_hq ?g18_hy (by assumption) ?g18_gr;(case g18_hi=>(simp only[z_0,z_1,z_2];rfl));(case g18_hq=>exact fun _ _ _ h=>h);(case g18_hy=>(refine Or.inl ⟨by rfl,?_⟩;intro w hSw;(try dsimp only at hSw);go_simp;try with_reducible rfl));try simp only[Act.put,z_3,z_4,z_5]));((refine wpAnyH_take (i:=2) (oi:= ?g19_o) (v:= ?g19_v) ?g19_hi (by kernel_rfl) (by kernel_rfl) (by kernel_rfl) ?g19_hq ?g19_hy (by assumption) ?g19_gr;(case g19_hi=>(simp only[z_0,z_1,z_2];rfl));(case g19_hq=>exact fun _ _ _ h=>h);(case g19_hy=>(refine Or.inl ⟨by rfl,?_⟩;intro w hSw;(try dsimp only at hSw);go_simp;try with_reducible rfl));try simp only[Act.put,z_3,z_4,z_5])))
  (refine wpAnyH_ready (rs:=[3]) (by kernel_rfl) (by simp) ?_;refine AllReadyH.cons (o:= ?g20_o) ?g20_hi (fun K hK=> ?_) AllReadyH.nil;(case g20_hi=>(simp only[z_0,z_1,z_2];rfl));go_simp;(go_at_call 67;refine(HG.out _).mono ?_;rintro e w1 ⟨rfl,hb1⟩);go_wp2_with fail;refine hK.out _ _ (aG z_x) (fun hHeld=> ?_);clear hK K;try simp only[Act.put,z_3,z_4,z_5])
  (((refine wpAnyH_take (i:=4) (oi:= ?g21_o) (v:= ?g21_v) ?g21_hi (by kernel_rfl) (by kernel_rfl) (by kernel_rfl) ?g21_hq ?g21_hy (by assumption) ?g21_gr;(case g21_hi=>(simp only[z_0,z_1,z_2];rfl));(case g21_hq=>exact fun _ _ _ h=>h);(case g21_hy=>(refine Or.inl ⟨by rfl,?_⟩;intro w hSw;(try dsimp only at hSw);go_simp;try with_reducible rfl));try simp only[Act.put,z_3,z_4,z_5]));((refine wpAnyH_take (i:=5) (oi:= ?g22_o) (v:= ?g22_v) ?g22_hi (by kernel_rfl) (by kernel_rfl) (by kernel_rfl) ?g22_hq ?g22_hy (by assumption) ?g22_gr;(case g22_hi=>(simp only[z_0,z_1,z_2];rfl));(case g22_hq=>exact fun _ _ _ h=>h);(case g22_hy=>(refine Or.inl ⟨by rfl,?_⟩;intro w hSw;(try dsimp only at hSw);go_simp;try with_reducible rfl));try simp only[Act.put,z_3,z_4,z_5]));((refine wpAnyH_take (i:=6) (oi:= ?g23_o) (v:= ?g23_v) ?g23_hi (by kernel_rfl) (by kernel_rfl) (by kernel_rfl) ?g23_hq ?g23_hy (by assumption) ?g23_gr;(case g23_hi=>(simp only[z_0,z_1,z_2];rfl));(case g23_hq=>exact fun _ _ _ h=>h);(case g23_hy=>(refine Or.inl ⟨by rfl,?_⟩;intro w hSw;(try dsimp only at hSw);go_simp;try with_reducible rfl));try simp only[Act.put,z_3,z_4,z_5]));((refine wpAnyH_take (i:=7) (oi:= ?g24_o) (v:= ?g24_v) ?g24_hi (by kernel_rfl) (by kernel_rfl) (by kernel_rfl) ?g24_hq ?g24_hy (by assumption) ?g24_gr;(case g24_hi=>(simp only[z_0,z_1,z_2];rfl));(case g24_hq=>exact fun _ _ _ h=>h);(case g24_hy=>(refine Or.inl ⟨by rfl,?_⟩;intro w hSw;(try dsimp only at hSw);go_simp;try with_reducible rfl));try simp only[Act.put,z_3,z_4,z_5]));((refine wpAnyH_take (i:=8) (oi:= ?g25_o) (v:= ?g25_v) ?g25_hi (by kernel_rfl) (by kernel_rfl) (by kernel_rfl) ?g25_hq ?g25_hy (by assumption) ?g25_gr;(case g25_hi=>(simp only[z_0,z_1,z_2];rfl));(case g25_hq=>exact fun _ _ _ h=>h);(case g25_hy=>(refine Or.inl ⟨by rfl,?_⟩;intro w hSw;(try dsimp only at hSw);go_simp;try with_reducible rfl));try simp only[Act.put,z_3,z_4,z_5]));((refine wpAnyH_take (i:=9) (oi:= ?g26_o) (v:= ?g26_v) ?g26_hi (by kernel_rfl) (by kernel_rfl) (by kernel_rfl) ?g26_hq ?g26_hy (by assumption) ?g26_gr;(case g26_hi=>(simp only[z_0,z_1,z_2];rfl));(case g26_hq=>exact fun _ _ _ h=>h);(case g26_hy=>(refine Or.inl ⟨by rfl,?_⟩;intro w hSw;(try dsimp only at hSw);go_simp;try with_reducible rfl));try simp only[Act.put,z_3,z_4,z_5])))
  (refine wpAnyH_ready (rs:=[10]) (by kernel_rfl) (by simp) ?_;refine AllReadyH.cons (o:= ?g27_o) ?g27_hi (fun K hK=> ?_) AllReadyH.nil;(case g27_hi=>(simp only[z_0,z_1,z_2];rfl));go_simp;(go_at_call 69;refine(HA.out _ _).mono ?_;rintro e w2 ⟨rfl,hb2⟩);go_wp2_with fail;refine hK.out _ _ (aG z_x) (fun hHeld=> ?_);clear hK K;try simp only[Act.put,z_3,z_4,z_5])
  (((refine wpAnyH_take (i:=11) (oi:= ?g28_o) (v:= ?g28_v) ?g28_hi (by kernel_rfl) (by kernel_rfl) (by kernel_rfl) ?g28_hq ?g28_hy (by assumption) ?g28_gr;(case g28_hi=>(simp only[z_0,z_1,z_2];rfl));(case g28_hq=>exact fun _ _ _ h=>h);(case g28_hy=>(refine Or.inl ⟨by rfl,?_⟩;intro w hSw;(try dsimp only at hSw);go_simp;try with_reducible rfl));try simp only[Act.put,z_3,z_4,z_5]));((refine wpAnyH_take (i:=12) (oi:= ?g29_o) (v:= ?g29_v) ?g29_hi (by kernel_rfl) (by kernel_rfl) (by kernel_rfl) ?g29_hq ?g29_hy (by assumption) ?g29_gr;(case g29_hi=>(simp only[z_0,z_1,z_2];rfl));(case g29_hq=>exact fun _ _ _ h=>h);(case g29_hy=>(refine Or.inl ⟨by rfl,?_⟩;intro w hSw;(try dsimp only at hSw);go_simp;try with_reducible rfl));try simp only[Act.put,z_3,z_4,z_5]));((refine wpAnyH_take (i:=13) (oi:= ?g30_o) (v:= ?g30_v) ?g30_hi (by kernel_rfl) (by kernel_rfl) (by kernel_rfl) ?g30_hq ?g30_hy (by assumption) ?g30_gr;(case g30_hi=>(simp only[z_0,z_1,z_2];rfl));(case g30_hq=>exact fun _ _ _ h=>h);(case g30_hy=>(refine Or.inl ⟨by rfl,?_⟩;intro w hSw;(try dsimp only at hSw);go_simp;try with_reducible rfl));try simp only[Act.put,z_3,z_4,z_5]));((refine wpAnyH_take (i:=14) (oi:= ?g31_o) (v:= ?g31_v) ?g31_hi (by kernel_rfl) (by kernel_rfl) (by kernel_rfl) ?g31_hq ?g31_hy (by assumption) ?g31_gr;(case g31_hi=>(simp only[z_0,z_1,z_2];rfl));(case g31_hq=>exact fun _ _ _ h=>h);(case g31_hy=>(refine Or.inl ⟨by rfl,?_⟩;intro w hSw;(try dsimp only at hSw);go_simp;try with_reducible rfl));try simp only[Act.put,z_3,z_4,z_5]));((refine wpAnyH_take (i:=15) (oi:= ?g32_o) (v:= ?g32_v) ?g32_hi (by kernel_rfl) (by kernel_rfl) (by kernel_rfl) ?g32_hq ?g32_hy (by assumption) ?g32_gr;(case g32_hi=>(simp only[z_0,z_1,z_2];rfl));(case g32_hq=>exact fun _ _ _ h=>h);(case g32_hy=>(refine Or.inl ⟨by rfl,?_⟩;intro w hSw;(try dsimp only at hSw);go_simp;try with_reducible rfl));try simp only[Act.put,z_3,z_4,z_5])))
  refine wpAnyH_done (by kernel_rfl) ?_ _
  have hx:=hx0.trans hHeld.2
  go_wp2_with fail
  go_ret
  exact⟨by simp,hx⟩
theorem T_cells:cX Tryz.prog 37 28 (.agg #[.int .i64 0, .int .i64 0]) 2 16:=⟨Tryz.underlying37,by kernel_rfl,rfl,by decide⟩
def aQ (n:Nat):Int:=match n with|1=>1|3=> -1|_=>0
def aR (n:Nat):Int:=match n with|0=> -1|2=>1|_=>0
theorem rZ (n:Nat): -1≤aQ n∧aQ n≤1∧ -1≤aR n∧aR n≤1:=by
 unfold aQ aR
 split<;>split<;>omega
def nbC (op:Int→Int→Bool) (x y:Int):Nat→List aB
 |0=>[]
 |k+1=>nbC op x y k++if op (x+aQ k) (y+aR k)=true then[(x+aQ k,y+aR k)] else[]
theorem nB (op:Int→Int→Bool) (x y:Int): ∀k,(nbC op x y k).length≤k
 |0=>Nat.le_refl _
 |k+1=>by
  have:=nB op x y k
  unfold nbC
  split<;>simp<;>omega
set_option maxRecDepth 100000 in
set_option maxHeartbeats 1000000 in
theorem qG {w:World} {W H:Int} {a:Option Addr} {l:List Int} {bx byy bw bh:Int} (L:LandAt w W H a l bx byy bw bh) (c:Nat) (x y:Int) (hx1: -1≤x) (hx2:x≤1000) (hy1: -1≤y) (hy2:y≤1000):
  Calls Tryz.prog 120 #[.agg #[.int .i64 W, .int .i64 H, .slice a l.length c, .int .i64 bx, .int .i64 byy, .int .i64 bw, .int .i64 bh], .agg #[.int .i64 x, .int .i64 y]] w fun e w'=> ∃v,e= .returned v∧Ext w w'∧Own cellE w' w.heap.size 28 v (nbC (aY l W bx byy bw bh) x y 4):=by
 have HL:=aA L
 obtain⟨n,hn⟩: ∃n,l.length=n:=⟨_,rfl⟩
 have HOP:=aA (fun(w':World) (hx:Ext w w') (k:Nat)=>oW (L.ext hx) c (x+aQ k) (y+aR k))
 rw[hn]at HOP⊢
 generalize aY l W bx byy bw bh=op at *
 clear L HL hn
 go_enter Tryz.func120,Tryz.ntmps120
 go_wp2_with fail
 obtain⟨w0,hw0⟩: ∃w0,w0=((w.alloc (.cells #[.int .i64 W, .int .i64 H, .slice a n c, .int .i64 bx, .int .i64 byy, .int .i64 bw, .int .i64 bh] 147)).alloc (.cells #[.int .i64 x, .int .i64 y] 28)).alloc (.cells #[.int .i64 0, .int .i64 (-1), .int .i64 1, .int .i64 0, .int .i64 0, .int .i64 1, .int .i64 (-1), .int .i64 0] 28):=⟨_,rfl⟩
 have hx0:Ext w w0:=by rw[hw0];exact z_x
 have z0:w0.heap.size=w.heap.size+3:=by rw[hw0];simp
 have q0:w0.cell? ⟨w.heap.size,0,none⟩=some (.int .i64 W):=by rw[hw0];simp[go_sem]
 have q1:w0.cell? ⟨w.heap.size,1,none⟩=some (.int .i64 H):=by rw[hw0];simp[go_sem]
 have q2:w0.cell? ⟨w.heap.size,2,none⟩=some (.slice a n c):=by rw[hw0];simp[go_sem]
 have q3:w0.cell? ⟨w.heap.size,3,none⟩=some (.int .i64 bx):=by rw[hw0];simp[go_sem]
 have q4:w0.cell? ⟨w.heap.size,4,none⟩=some (.int .i64 byy):=by rw[hw0];simp[go_sem]
 have q5:w0.cell? ⟨w.heap.size,5,none⟩=some (.int .i64 bw):=by rw[hw0];simp[go_sem]
 have q6:w0.cell? ⟨w.heap.size,6,none⟩=some (.int .i64 bh):=by rw[hw0];simp[go_sem]
 have p0:w0.cell? ⟨w.heap.size+1,0,none⟩=some (.int .i64 x):=by rw[hw0];simp[go_sem]
 have p1:w0.cell? ⟨w.heap.size+1,1,none⟩=some (.int .i64 y):=by rw[hw0];simp[go_sem]
 have hd: ∀k,k<4→w0.cell? ⟨w.heap.size+2,k*2,none⟩=some (.int .i64 (aQ k))∧w0.cell? ⟨w.heap.size+2,k*2+1,none⟩=some (.int .i64 (aR k)):=by
  intro k hk
  rw[hw0]
  obtain rfl|rfl|rfl|rfl:k=0∨k=1∨k=2∨k=3:=by omega
  all_goals (constructor<;>simp[go_sem,aQ,aR])
 have HD:=aA hd
 rw[←hw0]
 clear hw0 hd
 go_loopw [5,15] (fun out i wr=> ∃k:Nat,k≤4∧i= .int .i64 k∧Own cellE wr (w.heap.size+3) 28 out (nbC op x y k)∧Below (w.heap.size+3) w0 wr) (fun _ i _=>4-(intOf i).toNat)
 case atStart=>exact⟨0,Nat.zero_le _,rfl,Own.nil _ _ _ _,Below.refl _ _⟩
 case round=>
  obtain⟨k,hk4,rfl,hown,hbel⟩:=hrel
  have HO:=aA hown
  have HB:=aA hbel
  have hz:=hbel.size
  have hxr:Ext w wr:=hx0.of_below hbel (by omega)
  have q0':=(hbel.cell (p:=⟨w.heap.size,0,none⟩) (show w.heap.size<w.heap.size+3 by omega)).trans q0
  have q1':=(hbel.cell (p:=⟨w.heap.size,1,none⟩) (show w.heap.size<w.heap.size+3 by omega)).trans q1
  have q2':=(hbel.cell (p:=⟨w.heap.size,2,none⟩) (show w.heap.size<w.heap.size+3 by omega)).trans q2
  have q3':=(hbel.cell (p:=⟨w.heap.size,3,none⟩) (show w.heap.size<w.heap.size+3 by omega)).trans q3
  have q4':=(hbel.cell (p:=⟨w.heap.size,4,none⟩) (show w.heap.size<w.heap.size+3 by omega)).trans q4
  have q5':=(hbel.cell (p:=⟨w.heap.size,5,none⟩) (show w.heap.size<w.heap.size+3 by omega)).trans q5
  have q6':=(hbel.cell (p:=⟨w.heap.size,6,none⟩) (show w.heap.size<w.heap.size+3 by omega)).trans q6
  have p0':=(hbel.cell (p:=⟨w.heap.size+1,0,none⟩) (show w.heap.size+1<w.heap.size+3 by omega)).trans p0
  have p1':=(hbel.cell (p:=⟨w.heap.size+1,1,none⟩) (show w.heap.size+1<w.heap.size+3 by omega)).trans p1
  have zr:w.heap.size+2<wr.heap.size:=by omega
  have zr1:w.heap.size+1<wr.heap.size:=by omega
  have zr0:w.heap.size<wr.heap.size:=by omega
  have zr3:w.heap.size+3≤wr.heap.size:=by omega
  have hlen:=nB op x y k
  have HSU:=aA (show nbC op x y (k+1)=nbC op x y k++if op (x+aQ k) (y+aR k)=true then[(x+aQ k,y+aR k)] else[] from rfl)
  have HX:=aA hxr
  clear q0 q1 q2 q3 q4 q5 q6 p0 p1 hown hbel
  by_cases hlt:k<4
  ·have d0:=(HB.out.cell (p:=⟨w.heap.size+2,k*2,none⟩) (show w.heap.size+2<w.heap.size+3 by omega)).trans (HD.out k hlt).1
   have d1:=(HB.out.cell (p:=⟨w.heap.size+2,k*2+1,none⟩) (show w.heap.size+2<w.heap.size+3 by omega)).trans (HD.out k hlt).2
   have hdb:=rZ k
   have k1:IntKind.i64.wrap (x+aQ k)=x+aQ k:=IntWalk.i64_in _ (by omega)
   have k2:IntKind.i64.wrap (y+aR k)=y+aR k:=IntWalk.i64_in _ (by omega)
   have hli:(k:Int)<4:=by omega
   have HOk:=aA (fun(w':World) (hx:Ext w w')=>HOP.out w' hx k)
   generalize aQ k=dx at *
   generalize aR k=dy at *
   generalize hob:op (x+dx) (y+dy)=ob at *
   have hx9:w.heap.size<wr.heap.size+1+1:=by omega
   cases ob
   ·go_wp2_with fail
    refine(HOk.out _ (HX.out.trans z_x)).mono ?_
    rintro e w2 ⟨rfl,hb2⟩
    have hx2:Ext wr w2:=z_x
    clear hb2
    go_wp2
    go_roundw
    case rel=>exact⟨k+1,by omega,by go_num,by rw[HSU.out];simpa using HO.out.ext hx2,HB.out.trans (Below.mono hx2 (by omega))⟩
    case measure=>simp[intOf];omega
   ·go_wp2_with fail
    refine(HOk.out _ (HX.out.trans z_x)).mono ?_
    rintro e w2 ⟨rfl,hb2⟩
    have hx2:Ext wr w2:=z_x
    obtain⟨hc2,hf2⟩:=hb2.cells;have hz2:=hb2.size;(repeat(first|rw[World.size_alloc]at hz2|rw[World.size_drew]at hz2));have z2_0:w.heap.size<w2.heap.size:=(by omega)
    have e0:w2.cell? ⟨wr.heap.size+1,0,none⟩=some (.int .i64 (x+dx)):=by rw[hc2 _ _ (by simp)];simp[go_sem]
    have e1:w2.cell? ⟨wr.heap.size+1,1,none⟩=some (.int .i64 (y+dy)):=by rw[hc2 _ _ (by simp)];simp[go_sem]
    have hz2':wr.heap.size+1<w2.heap.size:=by omega
    have hz3:wr.heap.size≤w2.heap.size:=by omega
    have HX2:=aA hx2
    have HO2:=aA (HO.out.ext hx2)
    clear hc2 hf2 hb2 hz2 hx2
    go_wp2_with (at_builtin;refine dU cellE T_cells rfl _ _ rfl (w.heap.size+3) _ _ (nbC op x y k) rfl HO2.out (x+dx,y+dy) _ _ rfl _ rfl rfl (by omega) (by omega) (by omega) ?_;intro g9 c9 w9 hown9 hb9;have HO9:=aA hown9;clear hown9)
    go_roundw
    case rel=>exact⟨k+1,by omega,by go_num,by rw[HSU.out];simpa using HO9.out,HB.out.trans ((HX2.out.below.mono (by omega)).trans hb9)⟩
    case measure=>simp[intOf];omega
  ·obtain rfl:k=4:=by omega
   go_wp2
   go_ret
   exact⟨_,rfl,HX.out,HO.out.lower (by omega)⟩
structure LandP (W H:Int) (l:List Int) (bx byy bw bh:Int):Prop where
 may:bM W H=true
 len:(l.length:Int)=W*H
 u16:cS l
 fits:iE W H bx byy bw bh=true
theorem LandAt.plain {w:World} {W H:Int} {a:Option Addr} {l:List Int} {bx byy bw bh:Int} (L:LandAt w W H a l bx byy bw bh):LandP W H l bx byy bw bh:=⟨L.may,L.len,L.u16,L.fits⟩
def vx (W:Int) (v:Nat):Int:=(v:Int)% W
def vy (W:Int) (v:Nat):Int:=(v:Int)/W
def aC (W:Int) (p:aB):Nat:=(p.2*W+p.1).toNat
theorem dZ {W:Int} (hW:1≤W) (v:Nat):aC W (vx W v,vy W v)=v:=by
 unfold aC vx vy
 have:=Int.mul_ediv_add_emod (v:Int) W
 rw[Int.mul_comm]at this
 simp only
 omega
theorem bP {W x y:Int} (hx:0≤x) (hW:1≤W) (hy:0≤y):((aC W (x,y):Nat):Int)=y*W+x:=by
 unfold aC
 have:=Int.mul_nonneg hy (show 0≤W by omega)
 simp only
 omega
theorem cQ {W x y:Int} (hx:0≤x) (hxW:x<W) (hy:0≤y):vx W (aC W (x,y))=x:=by
 unfold vx
 rw[bP hx (by omega) hy,Int.add_comm,Int.add_mul_emod_self_right]
 exact Int.emod_eq_of_lt hx hxW
theorem cR {W x y:Int} (hx:0≤x) (hxW:x<W) (hy:0≤y):vy W (aC W (x,y))=y:=by
 unfold vy
 rw[bP hx (by omega) hy,Int.add_comm,Int.add_mul_ediv_right _ _ (by omega),Int.ediv_eq_zero_of_lt hx hxW]
 omega
theorem aLf {W H:Int} (hW:1≤W) {v:Nat} (hv:(v:Int)<W*H):0≤vx W v∧vx W v<W∧0≤vy W v∧vy W v<H:=by
 unfold vx vy
 refine⟨Int.emod_nonneg _ (by omega),Int.emod_lt_of_pos _ (by omega),Int.ediv_nonneg (by omega) (by omega),?_⟩
 exact Int.ediv_lt_of_lt_mul (by omega) (by rw[Int.mul_comm];exact hv)
theorem mem_nbC {op:Int→Int→Bool} {x y:Int} {p:aB}: ∀{n:Nat},p∈nbC op x y n↔ ∃k,k<n∧op (x+aQ k) (y+aR k)=true∧p=(x+aQ k,y+aR k)
 |0=>by simp[nbC]
 |n+1=>by
  unfold nbC
  rw[List.mem_append,mem_nbC]
  constructor
  ·rintro(⟨k,h1,h2⟩|h)
   ·exact⟨k,by omega,h2⟩
   ·split at h
    ·next ho=>exact⟨n,by omega,ho,by simpa using h⟩
    ·cases h
  ·rintro⟨k,h1,h2,h3⟩
   by_cases e:k=n
   ·subst e;right;rw[if_pos h2,h3];simp
   ·left;exact⟨k,by omega,h2,h3⟩
def opV (op:Int→Int→Bool) (W:Int) (N:Nat) (v:Nat):Bool:=decide (v<N)&&op (vx W v) (vy W v)
def wQ (op:Int→Int→Bool) (W:Int) (v:Nat):List Nat:=(nbC op (vx W v) (vy W v) 4).map (aC W)
def opp (k:Nat):Nat:=match k with|0=>2|1=>3|2=>0|_=>1
theorem aFq {k:Nat}:opp k<4:=by unfold opp;split<;>omega
theorem nC {k:Nat} (hk:k<4):aQ (opp k)= -aQ k∧aR (opp k)= -aR k:=by
 obtain rfl|rfl|rfl|rfl:k=0∨k=1∨k=2∨k=3:=by omega
 all_goals (constructor<;>rfl)
section
variable {W H:Int} {l:List Int} {bx byy bw bh:Int}
theorem LandP.wh (L:LandP W H l bx byy bw bh):1≤W∧W≤256∧1≤H∧H≤256∧(l.length:Int)≤65536:=by
 obtain⟨a,b,c,d⟩:=mayB_true.1 L.may
 have:=cP (a:=W) (b:=H) (A:=256) (B:=256) (by omega) b (by omega) d
 exact⟨a,b,c,d,by have:=L.len;omega⟩
theorem LandP.in_ (L:LandP W H l bx byy bw bh) {x y:Int} (h:bL bx byy bw bh x y=true):0≤x∧x<W∧0≤y∧y<H:=by
 have:=fitsR_true.1 L.fits
 have:=hasB_true.1 h
 omega
theorem cC {x y:Int} (h:aY l W bx byy bw bh x y=true):bL bx byy bw bh x y=true∧0<aH l W (x,y):=by
 simpa [aY] using h
theorem LandP.idx_lt (L:LandP W H l bx byy bw bh) {x y:Int} (h:0≤x∧x<W∧0≤y∧y<H):aC W (x,y)<l.length:=by
 have h1:=iH h.1 h.2.1 h.2.2.1 h.2.2.2
 have h2:=bP (W:=W) h.1 (by omega) h.2.2.1
 have:=L.len
 omega
theorem LandP.v_in (L:LandP W H l bx byy bw bh) {v:Nat} (hv:v<l.length):0≤vx W v∧vx W v<W∧0≤vy W v∧vy W v<H:=
 aLf L.wh.1 (by have:=L.len;omega)
theorem LandP.opV_idx (L:LandP W H l bx byy bw bh) {x y:Int} (h:0≤x∧x<W∧0≤y∧y<H):opV (aY l W bx byy bw bh) W l.length (aC W (x,y))=aY l W bx byy bw bh x y:=by
 unfold opV
 rw[cQ h.1 h.2.1 h.2.2.1,cR h.1 h.2.1 h.2.2.1,decide_eq_true (L.idx_lt h)]
 simp
theorem lG (x y:Int):aH l W (x,y)=l.getD (aC W (x,y)) 0:=rfl
theorem LandP.cost_v (L:LandP W H l bx byy bw bh) (v:Nat):aH l W (vx W v,vy W v)=l.getD v 0:=by
 rw[lG,dZ L.wh.1]
def aF (L:LandP W H l bx byy bw bh):Net where
 n:=l.length
 op:=opV (aY l W bx byy bw bh) W l.length
 cost v:=l.getD v 0
 adj:=wQ (aY l W bx byy bw bh) W
 pos v hv:=by
  unfold opV at hv
  simp only[Bool.and_eq_true]at hv
  have:=(cC hv.2).2
  rw[L.cost_v]at this
  omega
 top v _:=by
  rw[←L.cost_v]
  exact(bI L.u16 W _).2
 lt v hv:=by
  unfold opV at hv
  simp only[Bool.and_eq_true,decide_eq_true_eq]at hv
  exact hv.1
 sym u v hu hv ha:=by
  obtain⟨p,hp,rfl⟩:=List.mem_map.1 ha
  obtain⟨k,hk,ho,rfl⟩:=mem_nbC.1 hp
  have hin:=L.in_ (cC ho).1
  unfold opV at hv
  simp only[Bool.and_eq_true,decide_eq_true_eq]at hv
  refine List.mem_map.2 ⟨(vx W v,vy W v),mem_nbC.2 ⟨opp k,aFq,?_,?_⟩,dZ L.wh.1 v⟩
  ·rw[cQ hin.1 hin.2.1 hin.2.2.1,cR hin.1 hin.2.1 hin.2.2.1,(nC hk).1,(nC hk).2]
   rw[show vx W v+aQ k+ -aQ k=vx W v by omega,show vy W v+aR k+ -aR k=vy W v by omega]
   exact hv.2
  ·rw[cQ hin.1 hin.2.1 hin.2.2.1,cR hin.1 hin.2.1 hin.2.2.1,(nC hk).1,(nC hk).2]
   rw[show vx W v+aQ k+ -aQ k=vx W v by omega,show vy W v+aR k+ -aR k=vy W v by omega]
theorem wS (L:LandP W H l bx byy bw bh) {u v:Nat} (h:u∈(aF L).adj v):(aF L).op u=true:=by
 obtain⟨p,hp,rfl⟩:=List.mem_map.1 h
 obtain⟨k,hk,ho,rfl⟩:=mem_nbC.1 hp
 have hin:=L.in_ (cC ho).1
 show opV _ _ _ _=true
 rw[L.opV_idx hin]
 exact ho
end
theorem aEp (G:Net) (s:Nat) (hs:G.op s=true): ∃D,IsFar G s D:=by
 have e:aE=18446744073709551615:=rfl
 have hdec: ∀v,∃d:Int,(0≤d∧d≤aE)∧(∀c,Way G s v c→c<aE→d≤c)∧(d<aE→Way G s v d):=by
  intro v
  by_cases h: ∃c:Nat,Way G s v (c:Int)∧(c:Int)<aE
  ·obtain⟨c0,h0,hl0⟩:=h
   have: ∀k c:Nat,c≤k→Way G s v (c:Int)→ ∃m:Nat,m≤c∧Way G s v (m:Int)∧ ∀c':Nat,Way G s v (c':Int)→m≤c':=by
    intro k
    induction k with
    |zero=>intro c hk hw;exact⟨c,Nat.le_refl _,hw,fun c' _=>by omega⟩
    |succ k ih=>
     intro c hk hw
     by_cases hex: ∃c',Way G s v ((c':Nat):Int)∧c'<c
     ·obtain⟨c',h1,h2⟩:=hex
      obtain⟨m,a1,a2,a3⟩:=ih c' (by omega) h1
      exact⟨m,by omega,a2,a3⟩
     ·exact⟨c,Nat.le_refl _,hw,fun c' hw'=>Nat.not_lt.1 fun hlt=>hex ⟨c',hw',hlt⟩⟩
   obtain⟨m,hm0,hm,hmin⟩:=this c0 c0 (Nat.le_refl _) h0
   exact⟨m,⟨by omega,by omega⟩,fun c' hw _=>by
    have h1:=hw.ends.2.2
    have:=hmin c'.toNat (hw.cast (by omega))
    omega,fun _=>hm⟩
  ·exact⟨aE,⟨by omega,Int.le_refl _⟩,fun c hw hl=>absurd ⟨c.toNat,hw.cast (by have:=hw.ends.2.2;omega),by have:=hw.ends.2.2;omega⟩ h,fun h=>absurd h (Int.lt_irrefl _)⟩
 obtain⟨D,hD⟩:=Classical.axiomOfChoice hdec
 have hinf: ∀v,D v<aE→Way G s v (D v):=fun v=>(hD v).2.2
 refine⟨D,?_,?_,fun v=>(hD v).1.1,fun v=>(hD v).1.2,?_,?_⟩
 ·intro _
  have h1:=(hD s).1.1
  have h2:=(hD s).2.1 0 (.start hs) (by omega)
  omega
 ·intro v hv
  by_cases h:D v<aE
  ·have:=(hinf v h).ends.2.1
   rw[hv]at this;cases this
  ·have:=(hD v).1.2;omega
 ·intro v ho _ u hu huo hlt
  have hw:=hinf u (by have:=G.pos v ho;omega)
  exact(hD v).2.1 _ (.step hw hu ho) hlt
 ·intro v ho hvs hlt
  have hw:=hinf v hlt
  generalize hd:D v=d at hw
  cases hw with
  |start h=>exact absurd rfl hvs
  |step hw' hu ho'=>
   rename_i u c
   have hou:=hw'.ends
   have hp:=G.pos v ho
   have h1:=(hD u).2.1 _ hw' (by omega)
   have h2:=(hD v).2.1 _ (.step (hinf u (by omega)) hu ho) (by omega)
   exact⟨u,hu,hou.2.1,by omega⟩
theorem kX (G:Net) (s:Nat): ∃D,IsFar G s D:=by
 cases h:G.op s
 ·exact⟨fun _=>aE,⟨(fun k=>by rw[h]at k;cases k),(fun _ _=>rfl),(fun _=>by decide),(fun _=>Int.le_refl _),(fun v hv _ _ _ _ hlt=>by have:=G.pos v hv;have:aE+G.cost v<aE:=hlt;omega),(fun v _ _ hlt=>absurd hlt (Int.lt_irrefl _))⟩⟩
 ·exact aEp G s h
end Go.Proofs.YtaellcgglldjaaaGreat

