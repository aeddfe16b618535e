/- Part of a proof: FloodC. -/
import Derived.Test.YtaellcgglldjaaaGreatHierFindsQ10
import Derived.Test.YtaellcgglldjaaaGreatHierFindsQ11
import Derived.Test.YtaellcgglldjaaaGreatHierFindsQ12
set_option linter.all false
set_option linter.unusedVariables false
set_option linter.unusedSimpArgs false
namespace Go.Proofs.YtaellcgglldjaaaGreat
open Go.RowKit
def bZ (far:Nat→Int) (n:Nat):List Int:=(List.range n).map far
theorem cJ (far:Nat→Int) (n:Nat):(bZ far n).length=n:=by simp[bZ]
theorem oV (far:Nat→Int) {n i:Nat} (h:i<n):(bZ far n)[i]? =some (far i):=by simp[bZ,h]
theorem yU (far:Nat→Int) (n i:Nat) (x:Int):(bZ far n).set i x=bZ (bQ far i x) n:=by
 apply List.ext_getElem?
 intro k
 rw[List.getElem?_set,cJ]
 by_cases hk:k<n
 ·rw[oV far hk,oV _ hk]
  by_cases e:i=k
  ·subst e;simp[hk,bQ]
  rw[if_neg e,cW far x (fun h=>e h.symm)]
 have a1:(bZ far n)[k]? =none:=List.getElem?_eq_none (by rw[cJ];omega)
 have a2:(bZ (bQ far i x) n)[k]? =none:=List.getElem?_eq_none (by rw[cJ];omega)
 rw[a1,a2]
 split
 ·split
  ·omega
  rfl
 rfl
theorem yT (n:Nat):List.replicate n aJ=bZ (fun _=>aJ) n:=by
 unfold bZ
 rw[List.map_const',List.length_range]
theorem dZ {w:World} {base g n c:Nat} {l:List aB} (h:Own cellE w base 28 (.slice (some ⟨g,0,none⟩) n c) l) {k:Nat} {p:aB} (hk:l[k]? =some p):
  w.cell? ⟨g,k*2,none⟩=some (.int .i64 p.1)∧w.cell? ⟨g,k*2+1,none⟩=some (.int .i64 p.2)∧g<w.heap.size:=by
 obtain⟨a,c',e⟩:=h.slice
 have en:n=l.length:=by injection e
 subst en
 have hkl:=(zJ hk).1
 have h':w.ownsRow base 28 2 (.slice (some ⟨g,0,none⟩) l.length c) l.length (l.flatMap cellE.cells):=h
 refine⟨?_,?_,(aF h rfl).2⟩
 ·have:=cM cellE l k p hk 0 _ rfl
  rw[h'.cellAt (k*2) (by omega)]
  exact this
 have:=cM cellE l k p hk 1 _ rfl
 rw[h'.cellAt (k*2+1) (by omega)]
 exact this
def FarAt (w:World) (base g c:Nat) (far:Nat→Int) (n:Nat):Prop:=Own u64E w base 38 (.slice (some ⟨g,0,none⟩) n c) (bZ far n)
theorem FarAt.lt {w:World} {base g c:Nat} {far:Nat→Int} {n:Nat} (h:FarAt w base g c far n):base≤g∧g<w.heap.size:=aF h rfl
theorem FarAt.touch {S:Nat→Prop} {w w':World} {base g c:Nat} {far:Nat→Int} {n:Nat} (h:FarAt w base g c far n) (t:Touch S w w') (hs: ¬S g):FarAt w' base g c far n:=
 Own.touch h t (fun k hk=>by simp only[Value.ownBlock,Option.some.injEq]at hk;subst hk;exact hs)
theorem FarAt.ext {w w':World} {base g c:Nat} {far:Nat→Int} {n:Nat} (h:FarAt w base g c far n) (t:Ext w w'):FarAt w' base g c far n:=Own.ext h t
theorem FarAt.cell {w:World} {base g c:Nat} {far:Nat→Int} {n:Nat} (h:FarAt w base g c far n) {i:Nat} (hi:i<n):w.cell? ⟨g,i,none⟩=some (.int .u64 (far i))∧w.frozen? ⟨g,i,none⟩=false:=by
 have h':w.ownsRow base 38 1 (.slice (some ⟨g,0,none⟩) n c) (bZ far n).length ((bZ far n).flatMap u64E.cells):=h
 rw[cJ]at h'
 refine⟨?_,h'.frozenAt _⟩
 rw[h'.cellAt i (by omega)]
 have:=cM u64E (bZ far n) i (far i) (oV far hi) 0 (.int .u64 (far i)) rfl
 simpa [u64E] using this
theorem FarAt.turn {w:World} {base g c:Nat} {far:Nat→Int} {n:Nat} (h:FarAt w base g c far n) {i:Nat} (hi:i<n) (x:Int):FarAt (w.setCell ⟨g,i,none⟩ (.int .u64 x)) base g c (bQ far i x) n:=by
 have:=Own.turn (E:=u64E) h (i:=i) (by rw[cJ];exact hi) x
 rw[yU]at this
 rw[show i*u64E.size=i from Nat.mul_one i]at this
 exact this
def LandB (b:Nat) (W H:Int) (a:Option Addr) (n c:Nat) (bx byy bw bh:Int) (w:World):Prop:=
 w.cell? ⟨b,0,none⟩=some (.int .i64 W)∧w.cell? ⟨b,1,none⟩=some (.int .i64 H)∧w.cell? ⟨b,2,none⟩=some (.slice a n c)∧w.cell? ⟨b,3,none⟩=some (.int .i64 bx)∧w.cell? ⟨b,4,none⟩=some (.int .i64 byy)∧w.cell? ⟨b,5,none⟩=some (.int .i64 bw)∧w.cell? ⟨b,6,none⟩=some (.int .i64 bh)
theorem LandB.touch {S:Nat→Prop} {b:Nat} {W H:Int} {a:Option Addr} {n c:Nat} {bx byy bw bh:Int} {w w':World} (h:LandB b W H a n c bx byy bw bh w) (t:Touch S w w') (hb:b<w.heap.size) (h1: ¬S b):LandB b W H a n c bx byy bw bh w':=by
 obtain⟨a0,a1,a2,a3,a4,a5,a6⟩:=h
 have e1: ∀o,w'.cell? ⟨b,o,none⟩=w.cell? ⟨b,o,none⟩:=fun o=>t.cell (p:=⟨b,o,none⟩) hb h1
 unfold LandB
 simp only[e1]
 exact⟨a0,a1,a2,a3,a4,a5,a6⟩
theorem LandB.ext {b:Nat} {W H:Int} {a:Option Addr} {n c:Nat} {bx byy bw bh:Int} {w w':World} (h:LandB b W H a n c bx byy bw bh w) (t:Ext w w') (hb:b<w.heap.size):LandB b W H a n c bx byy bw bh w':=
 h.touch (Touch.of_ext (S:=fun _=>False) t) hb (fun x=>x)
def LandS (b:Nat) (W H:Int) (a:Option Addr) (n c:Nat) (bx byy bw bh x y:Int) (w:World):Prop:=
 w.cell? ⟨b,0,none⟩=some (.int .i64 W)∧w.cell? ⟨b,1,none⟩=some (.int .i64 H)∧w.cell? ⟨b,2,none⟩=some (.slice a n c)∧w.cell? ⟨b,3,none⟩=some (.int .i64 bx)∧w.cell? ⟨b,4,none⟩=some (.int .i64 byy)∧w.cell? ⟨b,5,none⟩=some (.int .i64 bw)∧w.cell? ⟨b,6,none⟩=some (.int .i64 bh)∧w.cell? ⟨b+1,0,none⟩=some (.int .i64 x)∧w.cell? ⟨b+1,1,none⟩=some (.int .i64 y)
theorem LandS.touch {S:Nat→Prop} {b:Nat} {W H:Int} {a:Option Addr} {n c:Nat} {bx byy bw bh x y:Int} {w w':World} (h:LandS b W H a n c bx byy bw bh x y w) (t:Touch S w w') (hb:b+1<w.heap.size) (h1: ¬S b) (h2: ¬S (b+1)):LandS b W H a n c bx byy bw bh x y w':=by
 obtain⟨a0,a1,a2,a3,a4,a5,a6,a7,a8⟩:=h
 have e1: ∀o,w'.cell? ⟨b,o,none⟩=w.cell? ⟨b,o,none⟩:=fun o=>t.cell (p:=⟨b,o,none⟩) (by show b<_;omega) h1
 have e2: ∀o,w'.cell? ⟨b+1,o,none⟩=w.cell? ⟨b+1,o,none⟩:=fun o=>t.cell (p:=⟨b+1,o,none⟩) hb h2
 unfold LandS
 simp only[e1,e2]
 exact⟨a0,a1,a2,a3,a4,a5,a6,a7,a8⟩
theorem LandS.ext {b:Nat} {W H:Int} {a:Option Addr} {n c:Nat} {bx byy bw bh x y:Int} {w w':World} (h:LandS b W H a n c bx byy bw bh x y w) (t:Ext w w') (hb:b+1<w.heap.size):LandS b W H a n c bx byy bw bh x y w':=
 h.touch (Touch.of_ext (S:=fun _=>False) t) hb (fun x=>x) (fun x=>x)
set_option maxRecDepth 100000 in
set_option maxHeartbeats 1000000 in
theorem aBh {w:World} {W H:Int} {a:Option Addr} {l:List Int} {bx byy bw bh:Int} (L:LandAt w W H a l bx byy bw bh) (c:Nat) (x y:Int) (ho:bD l W bx byy bw bh x y=false):
  Calls Tryz.prog 68 #[.agg #[.int .i64 W, .int .i64 H, .slice a l.length c, .int .i64 bx, .int .i64 byy, .int .i64 bw, .int .i64 bh], .agg #[.int .i64 x, .int .i64 y]] w fun e w'=>
   ∃v,e= .returned v∧Ext w w'∧Own u64E w' w.heap.size 38 v (bZ (fun _=>aJ) l.length):=by
 have wh:=L.plain.wh
 have hl:=L.len
 have hn1:1≤l.length:=by
  have:=Int.mul_pos (show 0<W by omega) (show 0<H by omega)
  omega
 obtain⟨n,hn⟩: ∃n,l.length=n:=⟨_,rfl⟩
 have HO:=aA (fun(w':World) (hx:Ext w w')=>pY (L.ext hx) c x y)
 rw[ho]at HO
 rw[hn]at HO hn1 wh⊢
 have HR:=aA (fun(w':World) (b:Nat) (hb:b<w'.heap.size) (hx:w'.cell? ⟨b,0,none⟩=some (.int .u64 18446744073709551615))=>tZ b 18446744073709551615 n hn1 (by omega) hb hx)
 clear L hl ho hn
 go_enter Tryz.func68,Tryz.ntmps68
 go_wp2
 apply wp_scope_straight
 go_wp2_with fail
 refine(HR.out _ _ (by simp) (by simp[go_sem])).mono ?_
 rintro e w1 ⟨v,rfl,hx1,hv⟩
 have hx:Ext w w1:=z_x
 have HV:=aA (hv.lower (base':=w.heap.size) (by simp;omega))
 have q0:w1.cell? ⟨w.heap.size,0,none⟩=some (.int .i64 W):=by rw[hx1.cell (p:=⟨w.heap.size,0,none⟩) (by simp;omega)];simp[go_sem]
 have q1:w1.cell? ⟨w.heap.size,1,none⟩=some (.int .i64 H):=by rw[hx1.cell (p:=⟨w.heap.size,1,none⟩) (by simp;omega)];simp[go_sem]
 have q2:w1.cell? ⟨w.heap.size,2,none⟩=some (.slice a n c):=by rw[hx1.cell (p:=⟨w.heap.size,2,none⟩) (by simp;omega)];simp[go_sem]
 have q3:w1.cell? ⟨w.heap.size,3,none⟩=some (.int .i64 bx):=by rw[hx1.cell (p:=⟨w.heap.size,3,none⟩) (by simp;omega)];simp[go_sem]
 have q4:w1.cell? ⟨w.heap.size,4,none⟩=some (.int .i64 byy):=by rw[hx1.cell (p:=⟨w.heap.size,4,none⟩) (by simp;omega)];simp[go_sem]
 have q5:w1.cell? ⟨w.heap.size,5,none⟩=some (.int .i64 bw):=by rw[hx1.cell (p:=⟨w.heap.size,5,none⟩) (by simp;omega)];simp[go_sem]
 have q6:w1.cell? ⟨w.heap.size,6,none⟩=some (.int .i64 bh):=by rw[hx1.cell (p:=⟨w.heap.size,6,none⟩) (by simp;omega)];simp[go_sem]
 have p0:w1.cell? ⟨w.heap.size+1,0,none⟩=some (.int .i64 x):=by rw[hx1.cell (p:=⟨w.heap.size+1,0,none⟩) (by simp)];simp[go_sem]
 have p1:w1.cell? ⟨w.heap.size+1,1,none⟩=some (.int .i64 y):=by rw[hx1.cell (p:=⟨w.heap.size+1,1,none⟩) (by simp)];simp[go_sem]
 have z0:w.heap.size<w1.heap.size:=by have:=hx1.size;simp at this;omega
 have z1:w.heap.size+1<w1.heap.size:=by have:=hx1.size;simp at this;omega
 have HX:=aA hx
 clear hx1 hx hv HR
 go_wp2_with fail
 refine(HO.out _ (HX.out.trans z_x)).mono ?_
 rintro e w2 ⟨rfl,hx2⟩
 go_wp2_with fail
 rw[Exit.noGoto_ret]
 go_ret
 exact⟨_,rfl,HX.out.trans z_x,by rw[←yT];exact HV.out.ext hx2⟩
def kK (W:Int) (v:Nat):Int×Int:=(vy W v,vx W v)
set_option maxRecDepth 100000 in
set_option maxHeartbeats 800000 in
theorem aBg {w:World} {W H:Int} {a:Option Addr} {l:List Int} {bx byy bw bh:Int} (L:LandAt w W H a l bx byy bw bh) (c:Nat) (x y:Int) (ho:bD l W bx byy bw bh x y=true):
  Calls Tryz.prog 68 #[.agg #[.int .i64 W, .int .i64 H, .slice a l.length c, .int .i64 bx, .int .i64 byy, .int .i64 bw, .int .i64 bh], .agg #[.int .i64 x, .int .i64 y]] w fun e w'=>
   ∃v far,e= .returned v∧Ext w w'∧Own u64E w' w.heap.size 38 v (bZ far l.length)∧IsFar (aE L.plain) (aC W (x,y)) far∧fT (aE L.plain) far:=by
 have LP:=aA L.plain
 have wh:=L.plain.wh
 have hin:=L.plain.in_ (eQ ho).1
 have hs:=L.plain.opV_idx hin
 rw[ho]at hs
 have hsn:=L.plain.idx_lt hin
 have hsi:=bT (W:=W) hin.1 (by omega) hin.2.2.1
 have HLA:=aA L
 obtain⟨n,hn⟩: ∃n,l.length=n:=⟨_,rfl⟩
 have HO:=aA (fun(w':World) (hx:Ext w w')=>pY (L.ext hx) c x y)
 have HA:=aA (fun(w':World) (x y:Int) (h:0≤x∧x<W∧0≤y∧y<H)=>oA W H a n c bx byy bw bh x y w' L.may h.1 h.2.1 h.2.2.1 h.2.2.2)
 have HBe:=aA (fun(w':World) (hx:Ext w w')=>rI (L.ext hx) c)
 obtain⟨s,hse⟩: ∃s,aC W (x,y)=s:=⟨_,rfl⟩
 have HST:Hid ((aE LP.out).op s=true):=aA (by rw[←hse];exact hs)
 have HKs:=aA (show kK W s=(y,x) by rw[←hse];unfold kK;rw[dQ hin.1 hin.2.1 hin.2.2.1,dR hin.1 hin.2.1 hin.2.2.1])
 have HG:Hid (aE LP.out=aE L.plain):=aA rfl
 have HIN:=aA hin
 rw[hse]at hsn hsi⊢
 rw[ho]at HO
 rw[hn]at HO HBe hsn wh⊢
 have hn1:1≤n:=by omega
 have HR:=aA (fun(w':World) (b:Nat) (hb:b<w'.heap.size) (hx:w'.cell? ⟨b,0,none⟩=some (.int .u64 18446744073709551615))=>tZ b 18446744073709551615 n hn1 (by omega) hb hx)
 have HN:=aA hn
 obtain⟨G,hG⟩: ∃G,aE LP.out=G:=⟨_,rfl⟩
 have HGN:=aA (show G.n=n by rw[←hG];exact hn)
 rw[←HG.out,hG]
 rw[hG]at HST
 have HGE:=aA hG
 clear L ho hn hs hse hin hG HG
 go_enter Tryz.func68,Tryz.ntmps68
 go_wp2
 apply wp_scope_straight
 go_wp2_with fail
 refine(HR.out _ _ (by simp) (by simp[go_sem])).mono ?_
 rintro e w1 ⟨v,rfl,hx1,hv⟩
 have hx:Ext w w1:=z_x
 have hsz1:w.heap.size+3≤w1.heap.size:=by have:=hx1.size;simp at this;omega
 have ls1:LandS w.heap.size W H a n c bx byy bw bh x y w1:=LandS.ext (by unfold LandS;simp[go_sem]) hx1 (by simp)
 obtain⟨g,cg,rfl⟩: ∃g cg,v= .slice (some ⟨g,0,none⟩) n cg:=by
  rcases hv.2 with⟨_,hz⟩|⟨g,cap,cur,hv',_⟩
  ·simp at hz
   omega
  exact⟨g,cap,by rw[hv'];simp⟩
 have fa1:FarAt w1 (w.heap.size+2) g cg (fun _=>aJ) n:=by
  unfold FarAt
  rw[←yT]
  exact hv.lower (by simp)
 have HX:=aA hx
 have FA1:=aA fa1
 have LS1:=aA ls1
 obtain⟨q0,q1,q2,q3,q4,q5,q6,p0,p1⟩:=ls1
 clear hx1 hx hv HR fa1
 go_wp2_with fail
 refine(HO.out _ (HX.out.trans z_x)).mono ?_
 rintro e w2 ⟨rfl,hx2⟩
 have LS2:=aA (LS1.out.ext hx2 (by omega))
 have FA2:=aA (FA1.out.ext hx2)
 have HX2:=aA (HX.out.trans hx2)
 have hz2:=hx2.size
 clear LS1 FA1 HX hx2 q0 q1 q2 q3 q4 q5 q6 p0 p1 HO
 go_wp2_with fail
 refine(sH _).mono ?_
 rintro e w3 ⟨h,rfl,hh,hx3,hhe⟩
 obtain⟨q0,q1,q2,q3,q4,q5,q6,p0,p1⟩:=LS2.out.ext hx3 (by omega)
 have LS3:=aA (LS2.out.ext hx3 (by omega))
 have FA3:=aA (FA2.out.ext hx3)
 have HX3:=aA (HX2.out.trans hx3)
 have hz3:=hx3.size
 have hgw:g<w2.heap.size:=FA2.out.lt.2
 have HHE:=aA hhe
 clear LS2 FA2 HX2 hx3 hhe
 go_wp2_with fail
 refine(HA.out _ x y HIN.out).mono ?_
 rintro e w4 ⟨rfl,hx4⟩
 have hi0:(0:Int)≤y*W+x:=by omega
 have hi1:y*W+x<(n:Int):=by omega
 have FA4:=aA (FA3.out.ext hx4)
 have LS4:=aA (LS3.out.ext hx4 (by omega))
 have HX4:=aA (HX3.out.trans hx4)
 have HHE4:=aA (HHE.out.ext hx4)
 have hz4:=hx4.size
 have f0:=(FA4.out.cell hsn).1
 have f1:=(FA4.out.cell hsn).2
 have hii:(y*W+x).toNat=s:=by omega
 clear FA3 LS3 HX3 HHE hx4 q0 q1 q2 q3 q4 q5 q6 p0 p1
 go_wp2_with fail
 obtain⟨w5,hw5⟩: ∃w5,w5=w4.setCell ⟨g,s,none⟩ (.int .u64 0):=⟨_,rfl⟩
 have t5:Touch (fun k=>k=g) w4 w5:=by rw[hw5];exact(Touch.refl (fun k=>k=g) w4).setCell (p:=⟨g,s,none⟩) (.inl rfl) _
 have hgb:=FA4.out.lt.1
 have FA5:=aA (show FarAt w5 (w.heap.size+2) g cg (bQ (fun _=>aJ) s 0) n by rw[hw5];exact FA4.out.turn hsn 0)
 have LS5:=aA (LS4.out.touch t5 (by omega) (by omega) (by omega))
 have HH5:=aA (HHE4.out.touch t5 (fun k (hk:w2.heap.size≤k) e=>by omega))
 have HX5:=aA (show Ext w w5 by rw[hw5];exact HX4.out.setCell (p:=⟨g,s,none⟩) (by show w.heap.size≤g;omega) _)
 have hz5:=t5.size
 rw[←hw5]
 clear hw5 t5 FA4 LS4 HHE4 HX4 f0 f1
 have hfit:bN .i64 (y*W+x):=by rw[←hsi];exact dG (by omega)
 have HFI:=aA hfit
 have HP:=aA (fun(w':World) (hx:Ext w5 w')=>pA (S:=fun k=>w2.heap.size≤k) (fun k hk=>by have:=hx.size;omega) (HH5.out.ext hx) (by simp) (y*W+x,((0,0),(y,x))) (by simp[ids]) hfit)
 clear hfit
 refine wp_region_held_drew (S:=(LandS w.heap.size W H a n c bx byy bw bh x y)) (by kernel_rfl) (LS5.out) (fun hK0=> ?_)
 (((refine wpAnyH_take (i:=0) (oi:= ?g42_o) (v:= ?g42_v) ?g42_hi (by kernel_rfl) (by kernel_rfl) (by kernel_rfl) ?g42_hq ?g42_hy (by assumption) ?g42_gr;(case g42_hi=>(simp only[z_0,z_2];rfl));(case g42_hq=>exact fun _ _ _ h=>h);(case g42_hy=>(refine Or.inl ⟨by rfl,?_⟩;intro w hSw;(try dsimp only at hSw);simp only[LandS]at hSw;go_simp;try with_reducible rfl));try simp only[zz]));((refine wpAnyH_take (i:=1) (oi:= ?g43_o) (v:= ?g43_v) ?g43_hi (by kernel_rfl) (by kernel_rfl) (by kernel_rfl) ?g43_hq ?g43_hy (by assumption) ?g43_gr;(case g43_hi=>(simp only[z_0,z_1,z_2];rfl));(case g43_hq=>exact fun _ _ _ h=>h);(case g43_hy=>(refine Or.inl ⟨by rfl,?_⟩;intro w hSw;(try dsimp only at hSw);simp only[LandS]at hSw;go_simp;try with_reducible rfl));try simp only[zz]));((refine wpAnyH_take (i:=2) (oi:= ?g44_o) (v:= ?g44_v) ?g44_hi (by kernel_rfl) (by kernel_rfl) (by kernel_rfl) ?g44_hq ?g44_hy (by assumption) ?g44_gr;(case g44_hi=>(simp only[z_0,z_1,z_2];rfl));(case g44_hq=>exact fun _ _ _ h=>h);(case g44_hy=>(refine Or.inl ⟨by rfl,?_⟩;intro w hSw;(try dsimp only at hSw);simp only[LandS]at hSw;go_simp;try with_reducible rfl));try simp only[zz]));((refine wpAnyH_take (i:=4) (oi:= ?g45_o) (v:= ?g45_v) ?g45_hi (by kernel_rfl) (by kernel_rfl) (by kernel_rfl) ?g45_hq ?g45_hy (by assumption) ?g45_gr;(case g45_hi=>(simp only[z_0,z_1,z_2];rfl));(case g45_hq=>exact fun _ _ _ h=>h);(case g45_hy=>(refine Or.inl ⟨by rfl,?_⟩;intro w hSw;(try dsimp only at hSw);simp only[LandS]at hSw;go_simp;try with_reducible rfl));try simp only[zz])))
 (refine wpAnyH_ready (rs:=[3]) (by kernel_rfl) (by simp) ?_;refine AllReadyH.cons (o:= ?g46_o) ?g46_hi (fun K hK=> ?_) AllReadyH.nil;(case g46_hi=>(simp only[z_0,z_1,z_2];rfl));go_simp;refine(HA.out _ x y HIN.out).mono ?_;rintro e w6 ⟨rfl,hx6⟩;go_wp2_with fail;refine hK.out _ _ (LS5.out.ext z_x (by omega)) (fun hK0=> ?_);clear hK K;try simp only[zz])
 (refine wpAnyH_ready (rs:=[5]) (by kernel_rfl) (by simp) ?_;refine AllReadyH.cons (o:= ?g47_o) ?g47_hi (fun K hK=> ?_) AllReadyH.nil;(case g47_hi=>(simp only[z_0,z_1,z_2];rfl));go_simp;refine(sE 0 x y _).mono ?_;rintro e w7 ⟨rfl,hx7⟩;go_wp2_with fail;refine hK.out _ _ (LS5.out.ext z_x (by omega)) (fun hK0=> ?_);clear hK K;try simp only[zz])
 have hx57:Ext w5 w7:=z_x
 have LS7:=aA (LS5.out.ext hx57 (by omega))
 have FA7:=aA (FA5.out.ext hx57)
 have HX7:=aA (HX5.out.trans hx57)
 have HP7:=aA (HP.out w7 hx57)
 have hz7:=hx57.size
 clear FA5 LS5 HX5 HP HH5 hx6 hx7
 (refine wpAnyH_ready (rs:=[6]) (by kernel_rfl) (by simp) ?_;refine AllReadyH.cons (o:= ?g48_o) ?g48_hi (fun K hK=> ?_) AllReadyH.nil;(case g48_hi=>(simp only[z_0,z_1,z_2];rfl));go_simp;refine HP7.out.mono ?_;rintro e w8 ⟨rfl,l8,h8,p8,t8⟩;go_wp2_with fail;refine hK.out _ _ (LS7.out.touch t8 (by omega) (by omega) (by omega)) (fun hK0=> ?_);clear hK K;try simp only[zz])
 refine wpAnyH_done (by kernel_rfl) ?_ _
 have hz8:=t8.size
 have LS8:=aA (LS7.out.touch t8 (by omega) (by omega) (by omega))
 have FA8:=aA (FA7.out.touch t8 (by omega))
 have HX8:=aA (HX7.out.of_below (t8.to_below (by omega) (fun k hk=>hk)) (by omega))
 have H8:=aA h8
 have D8:Hid (Dij G (kK W) s (bQ (fun _=>aJ) s 0) l8 [] (fun _ _=>False)):=by
  refine aA ((aFz HST.out).perm ?_)
  rw[hsi,HKs.out]
  exact p8
 clear LS7 FA7 HX7 HP7 h8 p8 t8
 go_wp2
 apply wp_label
 go_wp2
 go_loopg [7] n (fun gk i7 wr=> ∃(far:Nat→Int) (ts:List aM) (S:List Nat),gk=n-S.length∧Dij G (kK W) s far ts S (fun _ _=>False)∧FarAt wr (w.heap.size+2) g cg far n∧HeapIs (fun k=>w2.heap.size≤k) wr h ts∧Below (w.heap.size+2) w8 wr)
 case atStart=>exact⟨_,l8,[],by simp,D8.out,FA8.out,H8.out,Below.refl _ _⟩
 obtain⟨far,ts,S,rfl,hD,hFA,hH,hB⟩:=hrel
 have D:=aA hD
 have FA:=aA hFA
 have HH:=aA hH
 have B:=aA hB
 have hzr:=hB.size
 have HXr:=aA (HX8.out.of_below hB (by omega))
 have LSr:=aA (LS8.out.touch (S:=fun k=>w.heap.size+2≤k) (Touch.below hB (fun k _ hk=>hk)) (by omega) (by omega) (by omega))
 have hfew:=hD.few
 have hwait:=hD.waits
 rw[HGN.out]at hfew hwait
 have LS8r:=aA LS8.out
 have HX8r:=aA HX8.out
 clear hD hFA hH hB D8 FA8 H8 LS8 HX8
 by_cases h0:ts=[]
 ·subst h0
  have HE:=aA (aL7 D.out)
  go_wp2_with fail
  refine(aJ7 HH.out).mono ?_
  rintro e w9 ⟨rfl,hx9⟩
  go_wp2_with fail
  rw[Exit.noGoto_ret]
  go_ret
  refine⟨_,far,rfl,(HXr.out.trans hx9).alloc _,?_,HE.out.1,HE.out.2⟩
  exact Own.lower (FA.out.ext (hx9.alloc _)) (by omega)
 have h0':0<ts.length:=List.length_pos_iff.2 h0
 have HPo:=aA (uO HH.out (by omega) h0')
 clear h0
 go_wp2_with fail
 refine HPo.out.mono ?_
 rintro e w9 ⟨rfl,ts',h9,p9,t9⟩
 obtain⟨i,hi,hiS,hif,htop,hlow,hD'⟩:=aL8 D.out HH.out.ok p9
 have hiop:=D.out.open_ hif
 have hin:=G.lt i hiop
 rw[HGN.out]at hin
 have hiv:=LP.out.v_in (v:=i) (by rw[HN.out];exact hin)
 have HAD:=aA (show G.adj i=(nbC (bD l W bx byy bw bh) (vx W i) (vy W i) 4).map (aC W) by rw[←HGE.out];rfl)
 rw[hi]
 simp only[eX,kK]
 obtain⟨X,hX⟩: ∃X,vx W i=X:=⟨_,rfl⟩
 obtain⟨Y,hY⟩: ∃Y,vy W i=Y:=⟨_,rfl⟩
 rw[hX,hY]at hiv HAD⊢
 have HTOP:=aA htop
 have HLOW:=aA hlow
 have HD':=aA hD'
 have HIF:=aA hif
 have HIO:=aA hiop
 have FA9:=aA (FA.out.touch t9 (by omega))
 have LS9:=aA (LSr.out.touch t9 (by omega) (by omega) (by omega))
 have H9:=aA h9
 have HX9:=aA (HXr.out.of_below (t9.to_below (by omega) (fun k hk=>hk)) (by omega))
 have B9:=aA (B.out.trans (t9.to_below (B:=w.heap.size+2) (by omega) (fun k hk=>by omega)))
 have hz9:=t9.size
 obtain⟨q0,q1,q2,q3,q4,q5,q6,_,_⟩:=LS9.out
 have zb:w.heap.size<w9.heap.size:=by omega
 have hxy1: -1≤X∧X≤1000∧ -1≤Y∧Y≤1000:=by omega
 clear hX hY htop hlow hD' hif hiop hi h9 p9 t9 HPo h0' FA LSr HH HXr B D hiS
 go_wp2_with fail
 refine(HBe.out _ (HX9.out.trans z_x) X Y hxy1.1 hxy1.2.1 hxy1.2.2.1 hxy1.2.2.2).mono ?_
 rintro e w10 ⟨v,rfl,hx10,hv⟩
 have hx910:Ext w9 w10:=z_x
 obtain⟨a9,c9,rfl⟩:=hv.slice
 have LS10:=aA (LS9.out.ext hx910 (by omega))
 have FA10:=aA (FA9.out.ext hx910)
 have HX10:=aA (HX9.out.trans hx910)
 have B10:=aA (B9.out.trans (Below.mono hx910 (by omega)))
 have hz10:=hx910.size
 have hsb: ∀k,(Value.slice a9 (nbC (bD l W bx byy bw bh) X Y 4).length c9).ownBlock=some k→w9.heap.size<k∧k<w10.heap.size:=fun k hk=>by
  have:=aF hv hk
  simp at this
  omega
 have H10:Hid (HeapIs (fun k=>w2.heap.size≤k∧(Value.slice a9 (nbC (bD l W bx byy bw bh) X Y 4).length c9).ownBlock≠some k) w10 h ts'):=
  aA ((H9.out.mono (fun k hk hS=>⟨hS,fun e=>by have:=hsb k e;omega⟩)).ext hx910)
 have HV:=aA (hv.lower (base':=w9.heap.size) (by simp))
 have HSB:=aA hsb
 obtain⟨NB,hNB⟩: ∃NB,nbC (bD l W bx byy bw bh) X Y 4=NB:=⟨_,rfl⟩
 have hnb4:=oF (bD l W bx byy bw bh) X Y 4
 have HNB:=aA hNB
 rw[hNB]at HAD H10 HV HSB hnb4⊢
 obtain⟨m,hm⟩: ∃m,NB.length=m:=⟨_,rfl⟩
 rw[hm]at H10 HV HSB hnb4⊢
 have HM:=aA hm
 clear hm hNB hsb hv hx10 hx910 q0 q1 q2 q3 q4 q5 q6 LS9 FA9 HX9 B9 H9 hxy1
 go_wp2
 go_loopw [54] (fun q wl=> ∃(k:Nat) (far2:Nat→Int) (ts2:List aM),q= .int .i64 k∧k≤m∧Dij G (kK W) s far2 ts2 (i::S) (fun u v=>u=i∧v∈(NB.drop k).map (aC W))∧(∀u,u∈i::S→far2 u≤far2 i)∧far2 i+65535≤65535*((i::S).length:Int)∧FarAt wl (w.heap.size+2) g cg far2 n∧HeapIs (fun k=>w2.heap.size≤k∧(Value.slice a9 m c9).ownBlock≠some k) wl h ts2∧Own cellE wl w9.heap.size 28 (.slice a9 m c9) NB∧Below (w.heap.size+2) w8 wl∧w10.heap.size≤wl.heap.size) (fun q _=>m-(intOf q).toNat)
 case atStart=>exact⟨0,far,ts',rfl,Nat.zero_le _,HD'.out.weaken (fun u v _ _ _ hp=>⟨hp.1,by rw[List.drop_zero,←HAD.out];exact hp.2⟩),HTOP.out,HLOW.out,FA10.out,H10.out,HV.out,B10.out,Nat.le_refl _⟩
 obtain⟨k,far2,ts2,rfl,hkm,hD2,htop2,hlow2,hFA2,hH2,hV2,hB2,hz12⟩:=hrel
 have D2:=aA hD2
 have TOP:=aA htop2
 have LOW:=aA hlow2
 have FA2:=aA hFA2
 have H2:=aA hH2
 have V2:=aA hV2
 have B2:=aA hB2
 have HX2:=aA (HX8r.out.of_below hB2 (by omega))
 have LS2:=aA (LS8r.out.touch (S:=fun k=>w.heap.size+2≤k) (Touch.below hB2 (fun k _ hk=>hk)) (by omega) (by omega) (by omega))
 have hfew2:=hD2.few
 have hwait2:=hD2.waits
 rw[HGN.out]at hfew2 hwait2
 clear hD2 htop2 hlow2 hFA2 hH2 hV2 hB2 HD' HTOP HLOW FA10 H10 HV B10
 by_cases hlt:k<m
 ·obtain⟨sb,rfl⟩: ∃sb,a9=some ⟨sb,0,none⟩:=by
   rcases V2.out.2 with⟨_,hz⟩|⟨g',cap,cur,hv',_⟩
   ·have:=HM.out;omega
   injection hv' with e1 _ _;exact⟨g',e1⟩
  obtain⟨⟨cx,cy⟩,hp⟩: ∃p,NB[k]? =some p:=⟨_,zG (by rw[HM.out];exact hlt)⟩
  obtain⟨c0,c1,zsb⟩:=dZ V2.out hp
  have hmem:(cx,cy)∈nbC (bD l W bx byy bw bh) X Y 4:=by rw[HNB.out];exact List.mem_of_getElem? hp
  have hci:0≤cx∧cx<W∧0≤cy∧cy<H∧bD l W bx byy bw bh cx cy=true:=by
   obtain⟨d,_,ho,he⟩:=mem_nbC.1 hmem
   injection he with e1 e2
   rw[←e1,←e2]at ho
   have:=LP.out.in_ (eQ ho).1
   exact⟨this.1,this.2.1,this.2.2.1,this.2.2.2,ho⟩
  obtain⟨i1,i2,i3,i4,hco⟩:=hci
  obtain⟨j,hje⟩: ∃j,aC W (cx,cy)=j:=⟨_,rfl⟩
  have hji:=bT (W:=W) i1 (by omega) i3
  have hjn:=LP.out.idx_lt ⟨i1,i2,i3,i4⟩
  have hjo:=LP.out.opV_idx ⟨i1,i2,i3,i4⟩
  rw[hco,hje]at hjo
  rw[hje]at hji hjn
  rw[HN.out]at hjn
  have HKJ:=aA (show kK W j=(cy,cx) by rw[←hje];unfold kK;rw[dQ i1 i2 i3,dR i1 i2 i3])
  have HJO:=aA (show G.op j=true by rw[←HGE.out];exact hjo)
  have hjadj:j∈G.adj i:=by rw[HAD.out];exact List.mem_map.2 ⟨_,List.mem_of_getElem? hp,hje⟩
  have HIA:=aA (G.sym j i HJO.out HIO.out hjadj)
  obtain⟨ab,off,hae,zab,hcc⟩:=gJ (HLA.out.ext HX2.out).row HLA.out.len i1 i2 i3 i4
  subst hae
  rw[show(cy*W+cx).toNat=j by omega,show aL l W (cx,cy)=G.cost j by rw[mJ,hje,←HGE.out];rfl]at hcc
  have hcp:=G.pos j HJO.out
  have hct:=G.top j HJO.out
  have hf0:=D2.out.nn i
  have hin2:i<n:=hin
  have FI:=(FA2.out.cell hin2).1
  have FJ:=(FA2.out.cell hjn).1
  have HSA:=aA (fun w'=>uE (far2 i) (G.cost j) w' hf0 (by omega) (by have:=LOW.out;omega) (by omega))
  rw[if_pos (by have:=LOW.out;omega)]at HSA
  obtain⟨cj,hcj⟩: ∃cj,G.cost j=cj:=⟨_,rfl⟩
  obtain⟨fi,hfi⟩: ∃fi,far2 i=fi:=⟨_,rfl⟩
  obtain⟨fj,hfj⟩: ∃fj,far2 j=fj:=⟨_,rfl⟩
  rw[hcj]at hcc hcp hct HSA
  rw[hfi]at FI HSA hf0
  rw[hfj]at FJ
  have k9:IntKind.u64.wrap cj=cj:=by rw[IntKind.wrap_u64];omega
  have HCJ:=aA hcj
  have HFI2:=aA hfi
  have HFJ:=aA hfj
  have hxb:fi+cj<18446744073709551615:=by have:=LOW.out;omega
  have HAT:=aA (HA.out)
  obtain⟨q0,q1,q2,q3,q4,q5,q6,_,_⟩:=LS2.out
  have zb2:w.heap.size<wr.heap.size:=by omega
  have hji2:(j:Int)<(n:Int):=by omega
  have hii2:(i:Int)<(n:Int):=by omega
  have zsb2:sb<wr.heap.size:=zsb
  have hkm2:(k:Int)<(m:Int):=by omega
  have HAJ:=aA (fun(w':World)=>HA.out w' cx cy ⟨i1,i2,i3,i4⟩)
  rw[←hji]at HAJ
  have HJI:=aA hji
  clear hji
  have HDR:=aA (show ∀v,v∈(NB.drop k).map (aC W)→v=j∨v∈(NB.drop (k+1)).map (aC W) from fun v hv=>by
   obtain⟨hk1,hk2⟩:=zJ hp
   rw[List.drop_eq_getElem_cons hk1,hk2,List.map_cons,List.mem_cons,hje]at hv
   exact hv)
  clear hcj hfi hfj hmem hco hjadj hjo hje hp
  go_wp2_with fail
  refine(HAJ.out _).mono ?_
  rintro e w11 ⟨rfl,hx11⟩
  have hx:Ext wr w11:=z_x
  have LS11:=aA (LS2.out.ext hx (by omega))
  have FI11:=aA ((hx.cell (p:=⟨g,i,none⟩) FA2.out.lt.2).trans FI)
  have CC11:=aA ((hx.cell (p:=⟨ab,off+j,none⟩) zab).trans hcc)
  have FA11:=aA (FA2.out.ext hx)
  have r0:w11.cell? ⟨wr.heap.size,0,none⟩=some (.int .i64 cx):=by rw[hx11.cell (p:=⟨wr.heap.size,0,none⟩) (by simp)];simp[go_sem]
  have r1:w11.cell? ⟨wr.heap.size,1,none⟩=some (.int .i64 cy):=by rw[hx11.cell (p:=⟨wr.heap.size,1,none⟩) (by simp)];simp[go_sem]
  have zr11:wr.heap.size<w11.heap.size:=by have:=hx11.size;simp at this;omega
  have R0:=aA r0
  have R1:=aA r1
  have HX11:=aA hx
  clear r0 r1 FI FJ hcc hx11 hx c0 c1 q0 q1 q2 q3 q4 q5 q6
  go_wp2_with fail
  refine wp_region_held_drew (S:=(fun W'=>LandS w.heap.size W H (some ⟨ab,off,none⟩) n c bx byy bw bh x y W'∧W'.cell? ⟨g,i,none⟩=some (.int .u64 fi)∧W'.cell? ⟨ab,off+j,none⟩=some (.int .u16 cj))) (by kernel_rfl) (⟨LS11.out,FI11.out,CC11.out⟩) (fun hK0=> ?_)
  (((refine wpAnyH_take (i:=0) (oi:= ?g49_o) (v:= ?g49_v) ?g49_hi (by kernel_rfl) (by kernel_rfl) (by kernel_rfl) ?g49_hq ?g49_hy (by assumption) ?g49_gr;(case g49_hi=>(simp only[z_0,z_2];rfl));(case g49_hq=>exact fun _ _ _ h=>h);(case g49_hy=>(refine Or.inl ⟨by rfl,?_⟩;intro w hSw;(try dsimp only at hSw);simp only[LandS]at hSw;go_simp;try with_reducible rfl));try simp only[zz]));((refine wpAnyH_take (i:=1) (oi:= ?g50_o) (v:= ?g50_v) ?g50_hi (by kernel_rfl) (by kernel_rfl) (by kernel_rfl) ?g50_hq ?g50_hy (by assumption) ?g50_gr;(case g50_hi=>(simp only[z_0,z_1,z_2];rfl));(case g50_hq=>exact fun _ _ _ h=>h);(case g50_hy=>(refine Or.inl ⟨by rfl,?_⟩;intro w hSw;(try dsimp only at hSw);simp only[LandS]at hSw;go_simp;try with_reducible rfl));try simp only[zz]));((refine wpAnyH_take (i:=2) (oi:= ?g51_o) (v:= ?g51_v) ?g51_hi (by kernel_rfl) (by kernel_rfl) (by kernel_rfl) ?g51_hq ?g51_hy (by assumption) ?g51_gr;(case g51_hi=>(simp only[z_0,z_1,z_2];rfl));(case g51_hq=>exact fun _ _ _ h=>h);(case g51_hy=>(refine Or.inl ⟨by rfl,?_⟩;intro w hSw;(try dsimp only at hSw);simp only[LandS]at hSw;go_simp;try with_reducible rfl));try simp only[zz]));((refine wpAnyH_take (i:=3) (oi:= ?g52_o) (v:= ?g52_v) ?g52_hi (by kernel_rfl) (by kernel_rfl) (by kernel_rfl) ?g52_hq ?g52_hy (by assumption) ?g52_gr;(case g52_hi=>(simp only[z_0,z_1,z_2];rfl));(case g52_hq=>exact fun _ _ _ h=>h);(case g52_hy=>(refine Or.inl ⟨by rfl,?_⟩;intro w hSw;(try dsimp only at hSw);simp only[LandS]at hSw;go_simp;try with_reducible rfl));try simp only[zz]));((refine wpAnyH_take (i:=4) (oi:= ?g53_o) (v:= ?g53_v) ?g53_hi (by kernel_rfl) (by kernel_rfl) (by kernel_rfl) ?g53_hq ?g53_hy (by assumption) ?g53_gr;(case g53_hi=>(simp only[z_0,z_1,z_2];rfl));(case g53_hq=>exact fun _ _ _ h=>h);(case g53_hy=>(refine Or.inl ⟨by rfl,?_⟩;intro w hSw;(try dsimp only at hSw);simp only[LandS]at hSw;go_simp;try with_reducible rfl));try simp only[zz]));((refine wpAnyH_take (i:=5) (oi:= ?g54_o) (v:= ?g54_v) ?g54_hi (by kernel_rfl) (by kernel_rfl) (by kernel_rfl) ?g54_hq ?g54_hy (by assumption) ?g54_gr;(case g54_hi=>(simp only[z_0,z_1,z_2];rfl));(case g54_hq=>exact fun _ _ _ h=>h);(case g54_hy=>(refine Or.inl ⟨by rfl,?_⟩;intro w hSw;(try dsimp only at hSw);simp only[LandS]at hSw;go_simp;try with_reducible rfl));try simp only[zz]));((refine wpAnyH_take (i:=6) (oi:= ?g55_o) (v:= ?g55_v) ?g55_hi (by kernel_rfl) (by kernel_rfl) (by kernel_rfl) ?g55_hq ?g55_hy (by assumption) ?g55_gr;(case g55_hi=>(simp only[z_0,z_1,z_2];rfl));(case g55_hq=>exact fun _ _ _ h=>h);(case g55_hy=>(refine Or.inl ⟨by rfl,?_⟩;intro w hSw;(try dsimp only at hSw);simp only[LandS]at hSw;go_simp;try with_reducible rfl));try simp only[zz]));((refine wpAnyH_take (i:=7) (oi:= ?g56_o) (v:= ?g56_v) ?g56_hi (by kernel_rfl) (by kernel_rfl) (by kernel_rfl) ?g56_hq ?g56_hy (by assumption) ?g56_gr;(case g56_hi=>(simp only[z_0,z_1,z_2];rfl));(case g56_hq=>exact fun _ _ _ h=>h);(case g56_hy=>(refine Or.inl ⟨by rfl,?_⟩;intro w hSw;(try dsimp only at hSw);simp only[LandS]at hSw;go_simp;try with_reducible rfl));try simp only[zz]));((refine wpAnyH_take (i:=8) (oi:= ?g57_o) (v:= ?g57_v) ?g57_hi (by kernel_rfl) (by kernel_rfl) (by kernel_rfl) ?g57_hq ?g57_hy (by assumption) ?g57_gr;(case g57_hi=>(simp only[z_0,z_1,z_2];rfl));(case g57_hq=>exact fun _ _ _ h=>h);(case g57_hy=>(refine Or.inl ⟨by rfl,?_⟩;intro w hSw;(try dsimp only at hSw);simp only[LandS]at hSw;go_simp;try with_reducible rfl));try simp only[zz]));((refine wpAnyH_take (i:=9) (oi:= ?g58_o) (v:= ?g58_v) ?g58_hi (by kernel_rfl) (by kernel_rfl) (by kernel_rfl) ?g58_hq ?g58_hy (by assumption) ?g58_gr;(case g58_hi=>(simp only[z_0,z_1,z_2];rfl));(case g58_hq=>exact fun _ _ _ h=>h);(case g58_hy=>(refine Or.inl ⟨by rfl,?_⟩;intro w hSw;(try dsimp only at hSw);simp only[LandS]at hSw;go_simp;try with_reducible rfl));try simp only[zz]));((refine wpAnyH_take (i:=10) (oi:= ?g59_o) (v:= ?g59_v) ?g59_hi (by kernel_rfl) (by kernel_rfl) (by kernel_rfl) ?g59_hq ?g59_hy (by assumption) ?g59_gr;(case g59_hi=>(simp only[z_0,z_1,z_2];rfl));(case g59_hq=>exact fun _ _ _ h=>h);(case g59_hy=>(refine Or.inl ⟨by rfl,?_⟩;intro w hSw;(try dsimp only at hSw);simp only[LandS]at hSw;go_simp;try with_reducible rfl));try simp only[zz])))
  (refine wpAnyH_ready (rs:=[11]) (by kernel_rfl) (by simp) ?_;refine AllReadyH.cons (o:= ?g60_o) ?g60_hi (fun K hK=> ?_) AllReadyH.nil;(case g60_hi=>(simp only[z_0,z_1,z_2];rfl));go_simp;refine(HSA.out _).mono ?_;rintro e w12 ⟨rfl,hx12⟩;have hx112:Ext w11 w12:=z_x;have LS12:=aA (LS11.out.ext hx112 (by omega));have FI12:=aA ((hx112.cell (p:=⟨g,i,none⟩) FA11.out.lt.2).trans FI11.out);have CC12:=aA ((hx112.cell (p:=⟨ab,off+j,none⟩) (Nat.lt_of_lt_of_le zab HX11.out.size)).trans CC11.out);go_wp2_with fail;refine hK.out _ _ (⟨LS12.out,FI12.out,CC12.out⟩) (fun hK0=> ?_);clear hK K;try simp only[zz])
  ((refine wpAnyH_take (i:=12) (oi:= ?g61_o) (v:= ?g61_v) ?g61_hi (by kernel_rfl) (by kernel_rfl) (by kernel_rfl) ?g61_hq ?g61_hy (by assumption) ?g61_gr;(case g61_hi=>(simp only[z_0,z_1,z_2];rfl));(case g61_hq=>exact fun _ _ _ h=>h);(case g61_hy=>(refine Or.inl ⟨by rfl,?_⟩;intro w hSw;(try dsimp only at hSw);simp only[LandS]at hSw;go_simp;try with_reducible rfl));try simp only[zz]))
  refine wpAnyH_done (by kernel_rfl) ?_ _
  have FA12:=aA (FA11.out.ext hx112)
  have HX12:=aA (HX11.out.trans hx112)
  have H12:=aA (H2.out.ext HX12.out)
  have V12:=aA (V2.out.ext HX12.out)
  have B12:=aA (B2.out.trans (Below.mono HX12.out (by omega)))
  have r0:=(hx112.cell (p:=⟨wr.heap.size,0,none⟩) zr11).trans R0.out
  have r1:=(hx112.cell (p:=⟨wr.heap.size,1,none⟩) zr11).trans R1.out
  have FJ:=(FA12.out.cell hjn).1
  rw[HFJ.out]at FJ
  have FZ:=(FA12.out.cell hjn).2
  have z12:=hx112.size
  obtain⟨xx,hxx⟩: ∃xx,fi+cj=xx:=⟨_,rfl⟩
  have hfj1:fj≤18446744073709551615:=by have:=D2.out.le j;rw[HFJ.out]at this;exact this
  have hfj0:0≤fj:=by have:=D2.out.nn j;rw[HFJ.out]at this;exact this
  have HXE:=aA (show xx=far2 i+G.cost j by rw[HFI2.out,HCJ.out,hxx])
  rw[hxx]at hxb⊢
  have hx1:fi<xx:=by omega
  have hx0:0≤xx:=by omega
  have zrr:wr.heap.size<w12.heap.size:=by omega
  have HFJ64:Hid (bN .i64 (j:Int)):=aA (dG (by omega))
  have HGW:=aA (fun(kk:Nat) (hk:w2.heap.size≤kk) (e:kk=g)=>(by omega:False))
  have REL:Hid (xx<fj→ ∀(w13 w14:World) (ts3:List aM),Ext w12 w13→Touch (fun kk=>w2.heap.size≤kk∧(Value.slice (some ⟨sb,0,none⟩) m c9).ownBlock≠some kk) w13 w14→HeapIs (fun kk=>w2.heap.size≤kk∧(Value.slice (some ⟨sb,0,none⟩) m c9).ownBlock≠some kk) w14 h ts3→Dij G (kK W) s (bQ far2 j xx) ts3 (i::S) (fun u v=>(u=i∧v∈(NB.drop k).map (aC W))∧ ¬(u=i∧v=j))→
    ∃(k':Nat) (far2':Nat→Int) (ts2:List aM),Value.int .i64 ((k:Int)+1)= .int .i64 k'∧k'≤m∧Dij G (kK W) s far2' ts2 (i::S) (fun u v=>u=i∧v∈(NB.drop k').map (aC W))∧(∀u,u∈i::S→far2' u≤far2' i)∧far2' i+65535≤65535*((i::S).length:Int)∧FarAt (w14.setCell ⟨g,j,none⟩ (.int .u64 xx)) (w.heap.size+2) g cg far2' n∧HeapIs (fun k=>w2.heap.size≤k∧(Value.slice (some ⟨sb,0,none⟩) m c9).ownBlock≠some k) (w14.setCell ⟨g,j,none⟩ (.int .u64 xx)) h ts2∧Own cellE (w14.setCell ⟨g,j,none⟩ (.int .u64 xx)) w9.heap.size 28 (.slice (some ⟨sb,0,none⟩) m c9) NB∧Below (w.heap.size+2) w8 (w14.setCell ⟨g,j,none⟩ (.int .u64 xx))∧w10.heap.size≤(w14.setCell ⟨g,j,none⟩ (.int .u64 xx)).heap.size):=by
   refine aA (fun hlt3 w13 w14 ts3 e13 t14 h14 d14=> ?_)
   have hjS:j∉i::S:=fun hm=>by have:=TOP.out j hm;rw[HFI2.out,HFJ.out]at this;omega
   have hne: ∀u,u∈i::S→bQ far2 j xx u=far2 u:=fun u hu=>cW _ _ (fun e=>hjS (e▸hu))
   have ts:Touch (fun kk=>kk=g) w14 (w14.setCell ⟨g,j,none⟩ (.int .u64 xx)):=(Touch.refl (fun kk=>kk=g) w14).setCell (p:=⟨g,j,none⟩) (.inl rfl) _
   have s13:=e13.size
   have s14:=t14.size
   have ss:=ts.size
   have hgsb:w9.heap.size<sb∧sb<w10.heap.size:=HSB.out sb rfl
   refine⟨k+1,_,ts3,by push_cast;rfl,hlt,d14.weaken (fun u v _ _ _ hpp=>⟨hpp.1.1,(HDR.out v hpp.1.2).resolve_left (fun e=>hpp.2 ⟨hpp.1.1,e⟩)⟩),fun u hu=> ?_,?_,?_,?_,?_,?_,?_⟩
   ·rw[hne u hu,hne i List.mem_cons_self];exact TOP.out u hu
   ·rw[hne i List.mem_cons_self];exact LOW.out
   ·exact((FA12.out.ext e13).touch t14 (fun hk=>by omega)).turn hjn xx
   ·exact h14.touch ts (fun kk hk e=>HGW.out kk hk.1 e)
   ·exact Own.touch (Own.touch (V12.out.ext e13) t14 (fun kk hk hS=>hS.2 hk)) ts (fun kk hk e=>by simp only[Value.ownBlock,Option.some.injEq]at hk;omega)
   ·refine(B12.out.trans (Below.mono e13 (by omega))).trans ((t14.to_below (B:=w.heap.size+2) (by omega) (fun kk hk=>by omega)).setCell (p:=⟨g,j,none⟩) (by show w.heap.size+2≤g;omega) _)
   omega
  have HXB:=aA hxb
  clear hx12 hx112 LS11 LS12 FI11 FI12 CC11 CC12 FA11 R0 R1 hxx HSA HAJ HX11 hcp hct hf0 k9 hxb zr11 z12
  by_cases hA:fj=18446744073709551615
  ·have hA2:(fj==18446744073709551615)=true:=by simp[hA]
   have HLT:=aA (show xx<fj by rw[hA];exact HXB.out)
   have HAF:=aA (show far2 j=aJ by rw[HFJ.out];exact hA)
   have hnid:((j:Int),((xx,(0:Int)),(cy,cx))).1∉ids ts2:=fun hm=>by have:=(D2.out.ids_fin hm).2;rw[HAF.out]at this;exact absurd this (Int.lt_irrefl _)
   have HPU:=aA (fun(w':World) (hx:Ext w12 w')=>pA (S:=(fun kk=>w2.heap.size≤kk∧(Value.slice (some ⟨sb,0,none⟩) m c9).ownBlock≠some kk)) (fun kk hk=>⟨by have:=hx.size;omega,fun e=>by have:=HSB.out kk e;have:=hx.size;omega⟩) (H12.out.ext hx) (by omega) ((j:Int),((xx,0),(cy,cx))) hnid HFJ64.out)
   clear hA hnid
   go_wp2_with fail
   refine(sE xx cx cy _).mono ?_
   rintro e w13 ⟨rfl,hx13⟩
   go_wp2_with fail
   refine(HPU.out _ hx13).mono ?_
   rintro e w14 ⟨rfl,ts3,h14,p14,t14⟩
   have z13:=hx13.size
   have FA14:=(FA12.out.ext hx13).touch t14 (fun hk=>by omega)
   have FJ14:=(FA14.cell hjn).1
   have FZ14:=(FA14.cell hjn).2
   rw[HFJ.out]at FJ14
   have HRE:=aA (REL.out (by have:=HLT.out;omega) w13 w14 ts3 hx13 t14 h14 (aIs D2.out List.mem_cons_self TOP.out LOW.out (by omega) HJO.out HIA.out HXE.out HAF.out (by rw[HKJ.out];exact p14.trans (List.perm_append_comm (l₁:=[((j:Int),((xx,(0:Int)),(cy,cx)))])))))
   clear FJ FZ h14 p14 t14 FA14 hx13 HPU r0 r1
   go_wp2
   go_roundw
   case rel=>exact HRE.out
   simp[intOf];omega
  have hA2:(fj==18446744073709551615)=false:=by simpa using hA
  by_cases hB:xx<fj
  ·have HLT:=aA hB
   have HAF:=aA (show far2 j<aJ by rw[HFJ.out];show fj<18446744073709551615;omega)
   obtain⟨kk,hkk,hat⟩:=aG0 D2.out TOP.out HJO.out HXE.out HAF.out (by rw[HFJ.out];exact hB)
   have HAT2:=aA hat
   have hle:bP ((xx,(0:Int)),(cy,cx)) (tat ts2 kk).2=true:=by rw[hat,HFJ.out];exact lessB_iff.2 (.inl hB)
   have HPU:=aA (fun(w':World) (hx:Ext w12 w')=>qB (S:=(fun kk=>w2.heap.size≤kk∧(Value.slice (some ⟨sb,0,none⟩) m c9).ownBlock≠some kk)) (H12.out.ext hx) (by omega) hkk ((j:Int),((xx,0),(cy,cx))) (by rw[hat]) hle)
   have HKK:=aA hkk
   clear hA hat hle hkk
   go_wp2_with fail
   refine(sE xx cx cy _).mono ?_
   rintro e w13 ⟨rfl,hx13⟩
   go_wp2_with fail
   refine(HPU.out _ hx13).mono ?_
   rintro e w14 ⟨rfl,ts3,h14,p14,t14⟩
   have z13:=hx13.size
   have FA14:=(FA12.out.ext hx13).touch t14 (fun hk=>by omega)
   have FJ14:=(FA14.cell hjn).1
   have FZ14:=(FA14.cell hjn).2
   rw[HFJ.out]at FJ14
   have HRE:=aA (REL.out (by have:=HLT.out;omega) w13 w14 ts3 hx13 t14 h14 (aFy D2.out List.mem_cons_self TOP.out LOW.out (by omega) HJO.out HIA.out HXE.out (by rw[HFJ.out];exact HLT.out) HKK.out HAT2.out (by rw[HKJ.out];exact p14)))
   clear FJ FZ h14 p14 t14 FA14 hx13 HPU r0 r1
   go_wp2
   go_roundw
   case rel=>exact HRE.out
   simp[intOf];omega
  have hB2:decide (xx<fj)=false:=by simpa using hB
  have HSK:=aA (aIt (i:=i) (j:=j) D2.out (by rw[←HXE.out,HFJ.out];omega))
  clear hA hB
  go_wp2
  go_roundw
  case rel=>exact⟨k+1,far2,ts2,by go_num,hlt,HSK.out.weaken (fun u v _ _ _ hpp=>⟨hpp.1.1,(HDR.out v hpp.1.2).resolve_left (fun e=>hpp.2 ⟨hpp.1.1,e⟩)⟩),TOP.out,LOW.out,FA12.out,H12.out,V12.out,B12.out,by omega⟩
  simp[intOf];omega
 obtain rfl:k=m:=by omega
 go_wp2
 go_roundg (n-(i::S).length)
 case measure=>simp only[List.length_cons]at hfew2⊢;omega
 exact⟨far2,ts2,i::S,rfl,D2.out.weaken (fun u v _ _ _ hp=>by have:=hp.2;rw[List.drop_of_length_le (by rw[HM.out];exact Nat.le_refl _)]at this;cases this),FA2.out,H2.out.mono (fun j _ hj=>hj.1),B2.out⟩
def eA (W H:Int) (n:Nat) (bx byy bw bh x y:Int):Int:=if aX W H n=0 then(if jL W H bx byy bw bh=true∧bO bx byy bw bh x y=true then 0 else 10) else aX W H n
theorem lookE_ok {W H:Int} {n:Nat} {bx byy bw bh x y:Int}:eA W H n bx byy bw bh x y=0↔bW W H=true∧(n:Int)=W*H∧jL W H bx byy bw bh=true∧bO bx byy bw bh x y=true:=by
 unfold eA
 split
 ·next h=>
  rw[checkE_ok]at h
  split
  ·next h2=>simp[h,h2]
  next h2=>simp only[h.1,h.2,true_and];exact⟨fun e=>absurd e (by decide),fun e=>absurd e h2⟩
 next h=>
 constructor
 ·intro e;exact absurd e h
 intro e;exact absurd (checkE_ok.2 ⟨e.1,e.2.1⟩) h
set_option maxRecDepth 100000 in
theorem yR {w:World} (W H:Int) (a:Option Addr) (n c:Nat) (bx byy bw bh x y:Int) (he:eA W H n bx byy bw bh x y=0):
  Calls Tryz.prog 66 #[.agg #[.int .i64 W, .int .i64 H, .slice a n c], .agg #[.int .i64 bx, .int .i64 byy, .int .i64 bw, .int .i64 bh], .agg #[.int .i64 x, .int .i64 y]] w fun e w'=>e= .returned (.tuple #[.agg #[.int .i64 W, .int .i64 H, .slice a n c, .int .i64 bx, .int .i64 byy, .int .i64 bw, .int .i64 bh], .int .i64 0])∧Ext w w':=by
 have HC:=aA (fun w'=>cX W H a n c w')
 have HF:=aA (fun w'=>aG7 W H bx byy bw bh w')
 have HH:=aA (fun w'=>sF bx byy bw bh x y w')
 obtain⟨hm,hl,hf,hh⟩:=lookE_ok.1 he
 rw[checkE_ok.2 ⟨hm,hl⟩]at HC
 rw[aIy hm,hf]at HF
 rw[uP hm hf,hh]at HH
 clear he hm hl hf hh
 go_enter Tryz.func66,Tryz.ntmps66
 go_wp2_with (first
    |(go_at_call 34;refine(HC.out _).mono ?_;rintro e w1 ⟨rfl,hb1⟩;obtain⟨hc1,hf1⟩:=hb1.cells;have hz1:=hb1.size;(try simp only[zS]at hz1);have z1_0:w.heap.size<w1.heap.size:=(by omega);have z1_1:w.heap.size+1<w1.heap.size:=(by omega);have z1_2:w.heap.size+2<w1.heap.size:=(by omega);have z1_3:w.heap.size+3<w1.heap.size:=(by omega))
    |(go_at_call 115;refine(HF.out _).mono ?_;rintro e w2 ⟨rfl,hb2⟩;obtain⟨hc2,hf2⟩:=hb2.cells;have hz2:=hb2.size;(try simp only[zS]at hz2);have z2_0:w.heap.size<w2.heap.size:=(by omega);have z2_1:w.heap.size+1<w2.heap.size:=(by omega);have z2_2:w.heap.size+2<w2.heap.size:=(by omega);have z2_3:w.heap.size+3<w2.heap.size:=(by omega))
    |(go_at_call 67;refine(HH.out _).mono ?_;rintro e w3 ⟨rfl,hb3⟩;obtain⟨hc3,hf3⟩:=hb3.cells;have hz3:=hb3.size;(try simp only[zS]at hz3);have z3_0:w.heap.size<w3.heap.size:=(by omega);have z3_1:w.heap.size+1<w3.heap.size:=(by omega);have z3_2:w.heap.size+2<w3.heap.size:=(by omega);have z3_3:w.heap.size+3<w3.heap.size:=(by omega)))
 exact bodyPost_ret (v:= .tuple #[.agg #[.int .i64 W, .int .i64 H, .slice a n c, .int .i64 bx, .int .i64 byy, .int .i64 bw, .int .i64 bh], .int .i64 0]) (by simp[results,Tryz.results66,go_sem, *]) rfl ⟨rfl,z_x⟩
theorem aD3 {w:World} {W H:Int} {a:Option Addr} {l:List Int} {bx byy bw bh x y:Int} (he:eA W H l.length bx byy bw bh x y=0) (hr:Row16 w a l) (hu:cV l):LandAt w W H a l bx byy bw bh:=by
 obtain⟨hm,hl,hf,hh⟩:=lookE_ok.1 he
 exact⟨hm,hl,hr,hu,hf⟩
theorem bK {W H:Int} {l:List Int} {bx byy bw bh x y:Int} (he:eA W H l.length bx byy bw bh x y=0) (hu:cV l):LandP W H l bx byy bw bh:=by
 obtain⟨hm,hl,hf,hh⟩:=lookE_ok.1 he
 exact⟨hm,hl,hu,hf⟩
theorem aIw {W H:Int} {l:List Int} {bx byy bw bh:Int} (L:LandP W H l bx byy bw bh) {s:Nat} (h:(aE L).op s=false):IsFar (aE L) s (fun _=>aJ)∧fT (aE L) (fun _=>aJ):=
 ⟨⟨(fun e=>by rw[h]at e;cases e),(fun _ _=>rfl),(fun _=>by decide),(fun _=>Int.le_refl _),(fun v hv _ u _ _ h2=>by have:=(aE L).pos v hv;omega),fun v _ _ h2=>absurd h2 (Int.lt_irrefl _)⟩,fun v h2=>absurd h2 (Int.lt_irrefl _)⟩
theorem tE {w:World} {W H:Int} {a:Option Addr} {l:List Int} {bx byy bw bh:Int} (L:LandAt w W H a l bx byy bw bh) (c:Nat) (x y:Int) (hin:bO bx byy bw bh x y=true):
  Calls Tryz.prog 68 #[.agg #[.int .i64 W, .int .i64 H, .slice a l.length c, .int .i64 bx, .int .i64 byy, .int .i64 bw, .int .i64 bh], .agg #[.int .i64 x, .int .i64 y]] w fun e w'=>
   ∃v far,e= .returned v∧Ext w w'∧Own u64E w' w.heap.size 38 v (bZ far l.length)∧IsFar (aE L.plain) (aC W (x,y)) far∧fT (aE L.plain) far:=by
 cases ho:bD l W bx byy bw bh x y
 ·refine(aBh L c x y ho).mono ?_
  rintro e w' ⟨v,h1,h2,h3⟩
  have:=L.plain.opV_idx (L.plain.in_ hin)
  rw[ho]at this
  exact⟨v,_,h1,h2,h3,aIw L.plain this⟩
 exact aBg L c x y ho
set_option maxRecDepth 100000 in
theorem aDs {w:World} {W H:Int} {a:Option Addr} {l:List Int} {bx byy bw bh x y:Int} (c:Nat) (he:eA W H l.length bx byy bw bh x y=0) (hr:Row16 w a l) (hu:cV l):
  Calls Tryz.prog 174 #[.agg #[.int .i64 W, .int .i64 H, .slice a l.length c], .agg #[.int .i64 bx, .int .i64 byy, .int .i64 bw, .int .i64 bh], .agg #[.int .i64 x, .int .i64 y]] w fun e w'=>
   ∃v far,e= .returned (.tuple #[v, .int .i64 0])∧Ext w w'∧Own u64E w' w.heap.size 38 v (bZ far l.length)∧IsFar (aE (bK he hu)) (aC W (x,y)) far∧fT (aE (bK he hu)) far:=by
 have HL:=aA (fun(w':World)=>yR (w:=w') W H a l.length c bx byy bw bh x y he)
 have HF:=aA (fun(w':World) (hx:Ext w w')=>tE ((aD3 he hr hu).ext hx) c x y (lookE_ok.1 he).2.2.2)
 obtain⟨G,hG⟩: ∃G,aE (bK he hu)=G:=⟨_,rfl⟩
 rw[hG]
 have HF2:=aA (fun(w':World) (hx:Ext w w')=>(by have:=HF.out w' hx;rw[hG]at this;exact this:Calls Tryz.prog 68 #[.agg #[.int .i64 W, .int .i64 H, .slice a l.length c, .int .i64 bx, .int .i64 byy, .int .i64 bw, .int .i64 bh], .agg #[.int .i64 x, .int .i64 y]] w' fun e w''=>
   ∃v far,e= .returned v∧Ext w' w''∧Own u64E w'' w'.heap.size 38 v (bZ far l.length)∧IsFar G (aC W (x,y)) far∧fT G far))
 generalize aC W (x,y)=s at *
 obtain⟨n,hn⟩: ∃n,l.length=n:=⟨_,rfl⟩
 rw[hn]at HL HF2⊢
 clear HF hG hr hu hn he
 go_enter Tryz.func174,Tryz.ntmps174
 go_wp2_with (go_at_call 66;refine(HL.out _).mono ?_;rintro e w1 ⟨rfl,hb1⟩;obtain⟨hc1,hf1⟩:=hb1.cells;have hz1:=hb1.size;(try simp only[zS]at hz1);have z1_0:w.heap.size<w1.heap.size:=(by omega);have z1_1:w.heap.size+1<w1.heap.size:=(by omega);have z1_2:w.heap.size+2<w1.heap.size:=(by omega))
 refine(HF2.out _ z_x).mono ?_
 rintro e w2 ⟨v,far,rfl,hx2,hv,h1,h2⟩
 have hxx:Ext w w2:=z_x
 have HV:=aA (hv.lower (base':=w.heap.size) (by simp;omega))
 have H1:=aA h1
 have H2:=aA h2
 clear hv h1 h2
 go_wp2
 exact bodyPost_ret (v:= .tuple #[v, .int .i64 0]) (by simp[results,Tryz.results174,go_sem, *]) rfl ⟨v,far,rfl,hxx,HV.out,H1.out,H2.out⟩
end Go.Proofs.YtaellcgglldjaaaGreat

