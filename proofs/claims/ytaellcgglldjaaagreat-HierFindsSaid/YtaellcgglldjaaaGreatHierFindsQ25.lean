/- Part of a proof: FarW. -/
import Derived.Test.YtaellcgglldjaaaGreatHierFindsQ24
import Derived.Test.YtaellcgglldjaaaGreatHierFindsQ22
import Derived.Test.YtaellcgglldjaaaGreatHierFindsQ13
import Derived.Test.YtaellcgglldjaaaGreatHierFindsQ01
set_option linter.all false
set_option linter.unusedVariables false
set_option linter.unusedSimpArgs false
namespace Go.Proofs.YtaellcgglldjaaaGreat
open Go.RowKit
theorem wJ (x:Int):Value.int .i64 x= .int .i64 (x+((0:Nat):Int)):=by rw[show x+((0:Nat):Int)=x by omega]
theorem sK (x:Int) (j:Nat) {X:Int} (h:x+(j:Int)=X):Value.int .i64 (X+1)= .int .i64 (x+((j+1:Nat):Int)):=by rw[←h,show x+((j+1:Nat):Int)=x+(j:Int)+1 by omega]
theorem aFk (s:Nat):BdT (0*262144) (bQ (fun _=>aJ) s 0):=fun v=>by
 have e:aJ=18446744073709551615:=rfl
 unfold bQ
 split
 ·exact⟨by omega,by omega,fun _=>by omega⟩
 exact⟨show 0≤aJ by omega,Int.le_refl _,fun h=>absurd h (Int.lt_irrefl _)⟩
def oW (k:Nat) (v:Nat):Int:=if v<k then aJ else 0
theorem aDt {f g:Nat→Int} {n:Nat} (h: ∀v,v<n→f v=g v):bZ f n=bZ g n:=by
 unfold bZ
 exact List.map_congr_left fun v hv=>h v (List.mem_range.1 hv)
theorem FarAt.congr {w:World} {base g c n:Nat} {f f':Nat→Int} (h:FarAt w base g c f n) (e: ∀v,v<n→f v=f' v):FarAt w base g c f' n:=by
 unfold FarAt
 rw[←aDt e]
 exact h
theorem aIx (n:Nat):List.replicate n (0:Int)=bZ (oW 0) n:=by
 unfold bZ oW
 simp[List.map_const']
set_option maxRecDepth 100000 in
set_option maxHeartbeats 4000000 in
theorem sM {w:World} {W H:Int} {a:Option Addr} {l:List Int} {bx byy bw bh x y:Int} (c:Nat) (he:eA W H l.length bx byy bw bh x y=0) (hr:Row16 w a l) (hu:cV l) {D:Nat→Int} (F:IsFar (aE (bK he hu)) (aC W (x,y)) D):
  Calls Tryz.prog 58 #[.agg #[.int .i64 W, .int .i64 H, .slice a l.length c], .agg #[.int .i64 bx, .int .i64 byy, .int .i64 bw, .int .i64 bh], .agg #[.int .i64 x, .int .i64 y]] w fun e w'=>
   ∃v,e= .returned v∧Ext w w'∧Own u64E w' w.heap.size 38 v (bZ D l.length):=by
 have HLP:=aA (bK he hu)
 have FF:Hid (IsFar (aE HLP.out) (aC W (x,y)) D):=aA F
 have LP:=HLP.out
 obtain⟨hm,hl,hf,hh⟩:=lookE_ok.1 he
 have ff:=fitsR_true.1 hf
 have wh:=LP.wh
 have hin:=LP.in_ hh
 have hsn:=LP.idx_lt hin
 have hn1:1≤l.length:=by omega
 have HR:=aA hr
 have HU:=aA hu
 have HC:=aA (fun(x' y':Int) (w':World) (hr':Row16 w' a l) (h:0≤x'∧x'<W∧0≤y'∧y'<H)=>fM W H a l c x' y' w' hm hl hr' hu h.1 h.2.1 h.2.2.1 h.2.2.2)
 have cb:=bX hu W (x,y)
 have m0:=cN (a:=y) (b:=W) (A:=256) (B:=256) (by omega) (by omega) (by omega) (by omega)
 have hsi:=bT (W:=W) hin.1 (by omega) hin.2.2.1
 have k1:IntKind.i64.wrap (y*W)=y*W:=IntWalk.i64_in _ (by omega)
 have k2:IntKind.i64.wrap (y*W+x)=((aC W (x,y):Nat):Int):=by rw[hsi];exact IntWalk.i64_in _ (by omega)
 obtain⟨ab,aoff,rfl,zab,_⟩:=hr (by omega)
 have hos:opV (bD l W bx byy bw bh) W l.length (aC W (x,y))=decide (0<aL l W (x,y)):=by rw[LP.opV_idx hin];unfold bD;rw[hh];simp
 have HOS:=aA hos
 obtain⟨n,hnn⟩: ∃n,l.length=n:=⟨_,rfl⟩
 have HN:=aA hnn
 obtain⟨s,hs⟩: ∃s,aC W (x,y)=s:=⟨_,rfl⟩
 rw[hs]at hsn k2
 have HS:=aA hs
 have HIN:=aA hin
 have HCB:=aA cb
 rw[hnn]at hsn hn1 wh⊢
 have CCs:=aA (fun(w':World) (hr':Row16 w' (some ⟨ab,aoff,none⟩) l)=>(by have:=HC.out x y w' hr' HIN.out;rw[HN.out]at this;exact this:Calls Tryz.prog 20 #[.agg #[.int .i64 W, .int .i64 H, .slice (some ⟨ab,aoff,none⟩) n c], .agg #[.int .i64 x, .int .i64 y]] w' fun e w''=>e= .returned (.int .u64 (aL l W (x,y)))∧Ext w' w''))
 clear hr he hm hl hf hh hsi m0 LP F hos hnn hs cb
 go_enter Tryz.func58,Tryz.ntmps58
 go_wp2_with (at_make;refine jZ u64E T_u64s 0 rfl rfl rfl rfl _ _ rfl (w.heap.size+3) n rfl rfl (by omega) (by decide) (by simp) ?_)
 intro g w1 hg hown hx1
 have hx01:Ext w w1:=z_x
 have B0:Hid (Blk w1 (w.heap.size) 26 #[.int .i64 W, .int .i64 H, .slice (some ⟨ab,aoff,none⟩) n c]):=aA (by refine Blk.ext ?_ hx1;(repeat' (first|exact Blk.new_ (by simp)|refine Blk.drew ?_|refine Blk.over ?_)))
 have B1:Hid (Blk w1 (w.heap.size+1) 71 #[.int .i64 bx, .int .i64 byy, .int .i64 bw, .int .i64 bh]):=aA (by refine Blk.ext ?_ hx1;(repeat' (first|exact Blk.new_ (by simp)|refine Blk.drew ?_|refine Blk.over ?_)))
 have B2:Hid (Blk w1 (w.heap.size+2) 28 #[.int .i64 x, .int .i64 y]):=aA (by refine Blk.ext ?_ hx1;(repeat' (first|exact Blk.new_ (by simp)|refine Blk.drew ?_|refine Blk.over ?_)))
 have hgB:g=w.heap.size+3:=by rw[hg]
 have FA1:Hid (FarAt w1 (w.heap.size+3) g n (oW 0) n):=aA (by unfold FarAt;rw[←aIx];exact hown)
 have HX1:=aA hx01
 have HR1:=aA (HR.out.ext hx01)
 have HG:=aA hgB
 have hz1:w.heap.size+4≤w1.heap.size:=by have:=FA1.out.lt;omega
 have zab1:ab<w.heap.size:=zab
 clear hg hown hx1 hx01 hgB zab HR
 go_wp2_with fail
 go_loopw [8] (fun i wr=> ∃k:Nat,k≤n∧i= .int .i64 k∧FarAt wr (w.heap.size+3) g n (oW k) n∧Touch (fun k=>k=g) w1 wr) (fun i _=>n-(intOf i).toNat)
 case atStart=>exact⟨0,by omega,rfl,FA1.out,Touch.refl _ _⟩
 obtain⟨k,hk,rfl,hfa,htt⟩:=hrel
 have FA:=aA hfa
 have TT:=aA htt
 clear FA1
 by_cases hlt:k<n
 ·have c0:=(hfa.cell hlt).1
  have c1:=(hfa.cell hlt).2
  have j1:(k:Int)<(n:Int):=by omega
  have REL:Hid (FarAt (wr.setCell ⟨g,k,none⟩ (.int .u64 18446744073709551615)) (w.heap.size+3) g n (oW (k+1)) n∧Touch (fun k=>k=g) w1 (wr.setCell ⟨g,k,none⟩ (.int .u64 18446744073709551615))):=aA
   ⟨(hfa.turn hlt 18446744073709551615).congr (fun v _=>by
    unfold bQ oW
    by_cases e:v=k
    ·subst e;rw[if_pos rfl,if_pos (by omega)];rfl
    rw[if_neg e];by_cases h:v<k
    ·rw[if_pos h,if_pos (by omega)]
    rw[if_neg h,if_neg (by omega)]),htt.setCell (p:=⟨g,k,none⟩) (.inl rfl) _⟩
  clear hfa htt
  go_wp2
  go_roundw
  case rel=>exact⟨k+1,by omega,by go_num,REL.out.1,REL.out.2⟩
  simp[intOf];omega
 have FA2:=aA (hfa.congr (f':=fun _=>aJ) (fun v hv=>by unfold oW;rw[if_pos (by omega)]))
 have hBg:=HG.out
 have HRr:Hid (Row16 wr (some ⟨ab,aoff,none⟩) l):=aA (HR1.out.touch htt (by intro b o h;cases h;omega))
 have B0r:=aA (B0.out.touch htt (by omega))
 have B1r:=aA (B1.out.touch htt (by omega))
 have B2r:=aA (B2.out.touch htt (by omega))
 have HXr:Hid (Ext w wr):=aA (HX1.out.trans (Ext.refl _)|>.of_below (htt.to_below (B:=w.heap.size+3) (by omega) (fun k hk=>by omega)) (by omega))
 have q0:=B0r.out.at 0 rfl;have q1:=B0r.out.at 1 rfl;have q2:=B0r.out.at 2 rfl;have qz:=B0r.out.lt
 have u0:=B2r.out.at 0 rfl;have u1:=B2r.out.at 1 rfl;have uz:=B2r.out.lt
 have hzr:=htt.size
 have HTr:=aA htt
 clear hfa htt FA TT hBg
 obtain⟨c0,hc0⟩: ∃z,aL l W (x,y)=z:=⟨_,rfl⟩
 have HC0:=aA hc0
 rw[hc0]at CCs
 clear hc0
 have ho1:=HOS.out
 rw[HS.out,HC0.out]at ho1
 by_cases hcz:c0=0
 ·subst hcz
  have hD: ∀v,D v=aJ:=fun v=>by
   have hle:=FF.out.le v
   by_cases e:D v<aJ
   ·have:=(FF.out.way_of e).ends.1
    rw[HS.out]at this
    have h2:opV (bD l W bx byy bw bh) W l.length s=true:=this
    rw[h2]at ho1
    simp at ho1
   omega
  have HD:=aA hD
  clear hD ho1
  go_wp2_with (go_at_call 20;refine(CCs.out _ (HRr.out.ext z_x)).mono ?_;rintro e w3 ⟨rfl,hb3⟩)
  go_ret
  exact⟨_,rfl,HXr.out.trans z_x,Own.lower (base:=w.heap.size+3) (show FarAt _ _ _ _ D _ from(FA2.out.ext z_x).congr (fun v _=>(HD.out v).symm)) (Nat.le_add_right _ _)⟩
 have hcb:=HCB.out
 rw[HC0.out]at hcb
 have hcn:(c0==0)=false:=by simpa using hcz
 have hop:(aE HLP.out).op s=true:=by
  show opV (bD l W bx byy bw bh) W l.length s=true
  rw[ho1];simp;omega
 have HOP:=aA hop
 have j1:(s:Int)<(n:Int):=by omega
 have hfs:=(FA2.out.cell hsn)
 have hs0:=hfs.1
 have hs1:=hfs.2
 have hgr:=FA2.out.lt.2
 clear hfs ho1 hop hcb hcz
 go_wp2_with (go_at_call 20;refine(CCs.out _ (HRr.out.ext z_x)).mono ?_;rintro e w3 ⟨rfl,hb3⟩;obtain⟨hc3,hf3⟩:=hb3.cells;have hz3:=hb3.size;(try simp only[zS]at hz3);have z3_0:w.heap.size<w3.heap.size:=(by omega);have z3_1:w.heap.size+2<w3.heap.size:=(by omega);have z3_2:g<w3.heap.size:=(by omega))
 obtain⟨w4,hw4⟩: ∃w4,w4=w3.setCell ⟨g,s,none⟩ (.int .u64 0):=⟨_,rfl⟩
 have hx3:Ext wr w3:=z_x
 have t34:Touch (fun k=>k=g) w3 w4:=by rw[hw4];exact(Touch.refl (fun k=>k=g) w3).setCell (p:=⟨g,s,none⟩) (.inl rfl) _
 have FA4:=aA (show FarAt w4 (w.heap.size+3) g n (bQ (fun _=>aJ) s 0) n by rw[hw4];exact(FA2.out.ext hx3).turn hsn 0)
 have T4:=aA ((HTr.out.trans (Touch.of_ext hx3)).trans t34)
 rw[←hw4]
 clear hw4 hx3 t34 hb3 hc3 hf3 hz3 z3_0 z3_1 z3_2 hs0 hs1 q0 q1 q2 qz u0 u1 uz B0r B1r B2r HRr HXr FA2 HTr hzr hgr
 have RN:=aA (Rnds.start HLP.out (by rw[←HS.out];exact FF.out) HOP.out)
 have HW:Hid (∀wr,Touch (fun k=>k=g) w1 wr→Row16 wr (some ⟨ab,aoff,none⟩) l∧Blk wr w.heap.size 26 #[.int .i64 W, .int .i64 H, .slice (some ⟨ab,aoff,none⟩) n c]∧Blk wr (w.heap.size+1) 71 #[.int .i64 bx, .int .i64 byy, .int .i64 bw, .int .i64 bh]∧Ext w wr∧w.heap.size+4≤wr.heap.size):=aA (fun wr t=>
  have hBg:=HG.out
  have:=t.size
  ⟨HR1.out.touch t (by intro b o h;cases h;omega),B0.out.touch t (by omega),B1.out.touch t (by omega),HX1.out.of_below (t.to_below (B:=w.heap.size+3) (by omega) (fun k hk=>by omega)) (by omega),by omega⟩)
 have HCc:=aA (fun(x' y':Int) (w':World) (hr':Row16 w' (some ⟨ab,aoff,none⟩) l) (h:0≤x'∧x'<W∧0≤y'∧y'<H)=>(by have:=HC.out x' y' w' hr' h;rw[HN.out]at this;exact this:Calls Tryz.prog 20 #[.agg #[.int .i64 W, .int .i64 H, .slice (some ⟨ab,aoff,none⟩) n c], .agg #[.int .i64 x', .int .i64 y']] w' fun e w''=>e= .returned (.int .u64 (aL l W (x',y')))∧Ext w' w''))
 rw[HN.out]at RN
 clear B0 B1 B2 HR1 CCs HC k1 k2 HX1 hcn
 go_loopw [9] (fun i wr=> ∃(r:Nat) (far:Nat→Int),r≤n∧i= .int .i64 r∧Rnds D far s n r∧BdT (r*262144) far∧FarAt wr (w.heap.size+3) g n far n∧Touch (fun k=>k=g) w1 wr) (fun i _=>n-(intOf i).toNat)
 case atStart=>exact⟨0,_,by omega,rfl,RN.out,aFk s,FA4.out,T4.out⟩
 obtain⟨r,far,hrn,rfl,hR,hT,hfa,htt⟩:=hrel
 clear RN FA4 T4
 have RR:=aA hR
 have BT:=aA hT
 have FA:=aA hfa
 have TT:=aA htt
 obtain⟨_,hb0,hb1,hxw,hzw⟩:=HW.out _ htt
 have B1r:=aA hb1
 clear hR hT hfa htt hb0 hb1
 by_cases hlt:r<n
 ·have q0:=B1r.out.at 0 rfl;have q1:=B1r.out.at 1 rfl;have q2:=B1r.out.at 2 rfl;have q3:=B1r.out.at 3 rfl;have qz:=B1r.out.lt
  go_wp2_with fail
  go_loopw [10,11] (fun t yv wy=> ∃(m:Nat) (b:Bool),(m:Int)≤bh∧yv= .int .i64 (byy+m)∧t= .bool b∧(b=false→ ∀v,kI l W bx byy bw bh far m v=far v)∧BdT (r*262144+m*1024) (kI l W bx byy bw bh far m)∧FarAt wy (w.heap.size+3) g n (kI l W bx byy bw bh far m) n∧Touch (fun k=>k=g) w1 wy) (fun _ yv _=>(bh-(intOf yv-byy)).toNat)
  case atStart=>exact⟨0,false,by omega,wJ byy,rfl,fun _ _=>rfl,BT.out.mono (by omega),FA.out,TT.out⟩
  obtain⟨m,b,hmb,rfl,rfl,hbF,hT,hfa,htt⟩:=hrel
  clear FA TT q0 q1 q2 q3 qz hxw hzw B1r
  have BF:=aA hbF
  have BT1:=aA hT
  have FA:=aA hfa
  have TT:=aA htt
  obtain⟨_,hb0,hb1,hxw,hzw⟩:=HW.out _ htt
  have B1r:=aA hb1
  have HXw:=aA hxw
  clear hbF hT hfa htt hb0 hb1 hxw
  have q0:=B1r.out.at 0 rfl;have q1:=B1r.out.at 1 rfl;have q2:=B1r.out.at 2 rfl;have q3:=B1r.out.at 3 rfl;have qz:=B1r.out.lt
  by_cases hmlt:(m:Int)<bh
  ·obtain⟨Y,hY⟩: ∃Y,byy+(m:Int)=Y:=⟨_,rfl⟩
   have HY:=aA hY
   rw[hY]
   have hYb:0≤Y∧Y<H∧byy≤Y∧Y<byy+bh:=by omega
   obtain⟨F1,hF1⟩: ∃F1,kI l W bx byy bw bh far m=F1:=⟨_,rfl⟩
   have HF1:=aA hF1
   rw[hF1]at BF BT1 FA
   clear hY hF1
   go_wp2_with fail
   go_loopw [10,12] (fun t xv wx=> ∃(j:Nat) (b:Bool),(j:Int)≤bw∧xv= .int .i64 (bx+j)∧t= .bool b∧(b=false→ ∀v,hZ l W bx byy bw bh F1 Y j v=far v)∧BdT (r*262144+m*1024+j*4) (hZ l W bx byy bw bh F1 Y j)∧FarAt wx (w.heap.size+3) g n (hZ l W bx byy bw bh F1 Y j) n∧Touch (fun k=>k=g) w1 wx) (fun _ xv _=>(bw-(intOf xv-bx)).toNat)
   case atStart=>exact⟨0,b,by omega,wJ bx,rfl,BF.out,BT1.out.mono (by omega),FA.out,TT.out⟩
   obtain⟨j,bb,hjb,rfl,rfl,hbF,hT,hfa,htt⟩:=hrel
   clear FA TT q0 q1 q2 q3 qz HXw hzw B1r
   have BF2:=aA hbF
   have BT2:=aA hT
   have FA:=aA hfa
   have TT:=aA htt
   obtain⟨hrw,hb0,hb1,hxw,hzw⟩:=HW.out _ htt
   have B0r:=aA hb0
   have B1r:=aA hb1
   have HRr:=aA hrw
   have HXw:=aA hxw
   clear hbF hT hfa htt hb0 hb1 hxw hrw
   have p0:=B0r.out.at 0 rfl;have p1:=B0r.out.at 1 rfl;have p2:=B0r.out.at 2 rfl;have pz:=B0r.out.lt
   have q0:=B1r.out.at 0 rfl;have q1:=B1r.out.at 1 rfl;have q2:=B1r.out.at 2 rfl;have q3:=B1r.out.at 3 rfl;have qz:=B1r.out.lt
   by_cases hjlt:(j:Int)<bw
   ·obtain⟨X,hX⟩: ∃X,bx+(j:Int)=X:=⟨_,rfl⟩
    have HXX:=aA hX
    rw[hX]
    have hXb:0≤X∧X<W∧bx≤X∧X<bx+bw:=by omega
    obtain⟨F2,hF2⟩: ∃F2,hZ l W bx byy bw bh F1 Y j=F2:=⟨_,rfl⟩
    have HF2:=aA hF2
    rw[hF2]at BF2 BT2 FA
    have hco:=bX HU.out W (X,Y)
    have CCX:=aA (fun(w':World) (hr':Row16 w' (some ⟨ab,aoff,none⟩) l)=>HCc.out X Y w' hr' ⟨hXb.1,hXb.2.1,hYb.1,hYb.2.1⟩)
    obtain⟨cst,hcst⟩: ∃z,aL l W (X,Y)=z:=⟨_,rfl⟩
    have HCS:=aA hcst
    rw[hcst]at CCX hco
    clear hX hF2 hcst
    by_cases hc0:cst=0
    ·subst hc0
     clear hco
     have hsame:hZ l W bx byy bw bh F1 Y (j+1)=F2:=by
      show fL l W bx byy bw bh (hZ l W bx byy bw bh F1 Y j) (bx+j) Y=F2
      rw[HF2.out,HXX.out]
      unfold fL
      rw[if_pos HCS.out]
     have HSM:=aA hsame
     clear hsame
     go_wp2_with fail
     refine(CCX.out _ (HRr.out.ext z_x)).mono ?_
     rintro e w5 ⟨rfl,hb5⟩
     go_wp2_with fail
     go_roundw
     case rel=>exact⟨j+1,bb,by omega,sK _ _ HXX.out,rfl,by rw[HSM.out];exact BF2.out,by rw[HSM.out];exact BT2.out.mono (by omega),by rw[HSM.out];exact FA.out.ext z_x,TT.out.trans (Touch.of_ext z_x)⟩
     simp only[intOf];omega
    have hcn:(cst==0)=false:=by simpa using hc0
    have hnext:hZ l W bx byy bw bh F1 Y (j+1)=eE l W bx byy bw bh F2 X Y 4:=by
     show fL l W bx byy bw bh (hZ l W bx byy bw bh F1 Y j) (bx+j) Y=_
     rw[HF2.out,HXX.out]
     unfold fL
     rw[if_neg (by rw[HCS.out];exact hc0)]
    have HNX:=aA hnext
    clear hnext hc0
    go_wp2_with fail
    refine(CCX.out _ (HRr.out.ext z_x)).mono ?_
    rintro e w5 ⟨rfl,hb5⟩
    have C5:Hid (Blk w5 (wr.heap.size) 28 #[.int .i64 X, .int .i64 Y]):=aA (by refine Blk.ext ?_ hb5;(repeat' (first|exact Blk.new_ (by simp)|refine Blk.drew ?_|refine Blk.over ?_)))
    have hxr5:Ext wr w5:=z_x
    have T5:=aA (TT.out.trans (Touch.of_ext hxr5))
    have FA5:=aA (FA.out.ext hxr5)
    have hcg:wr.heap.size≠g:=by have:=FA.out.lt.2;omega
    obtain⟨cb,hcb⟩: ∃z,wr.heap.size=z:=⟨_,rfl⟩
    rw[hcb]at C5 hcg⊢
    clear hb5 hxr5 hcb p0 p1 p2 pz q0 q1 q2 q3 qz B0r B1r HRr FA TT HXw hzw
    go_wp2_with fail
    go_loopw [10,14] (fun t dv wd=> ∃(k:Nat) (b3:Bool),k≤4∧dv= .int .i64 k∧t= .bool b3∧(b3=false→ ∀v,eE l W bx byy bw bh F2 X Y k v=far v)∧BdT (r*262144+m*1024+j*4+k) (eE l W bx byy bw bh F2 X Y k)∧FarAt wd (w.heap.size+3) g n (eE l W bx byy bw bh F2 X Y k) n∧Touch (fun k=>k=g) w5 wd) (fun _ dv _=>4-(intOf dv).toNat)
    case atStart=>exact⟨0,bb,by omega,rfl,rfl,BF2.out,BT2.out.mono (Nat.le_add_right _ _),FA5.out,Touch.refl _ _⟩
    obtain⟨k,b3,hk,rfl,rfl,hbF,hT,hfa,htt⟩:=hrel
    have BF3:=aA hbF
    have BT3:=aA hT
    have FA:=aA hfa
    have TD:=aA htt
    have TT:=aA (T5.out.trans htt)
    obtain⟨hrw,hb0,hb1,hxw,hzw⟩:=HW.out _ TT.out
    have B0r:=aA hb0
    have B1r:=aA hb1
    have CR:=aA (C5.out.touch htt hcg)
    have HRr:=aA hrw
    clear hbF hT hfa htt hb0 hb1 hxw hrw
    by_cases hk4:k<4
    ·obtain⟨F3,hF3⟩: ∃F3,eE l W bx byy bw bh F2 X Y k=F3:=⟨_,rfl⟩
     have HF3:=aA hF3
     rw[hF3]at BF3 BT3 FA
     have hsd:=aAn hk4 X Y
     have hdb:=pX k
     have S1:=aA (fun w'=>qJ X Y (k:Int) w' (by omega) (by omega))
     rw[hsd.1,hsd.2]at S1
     obtain⟨P,hP⟩: ∃z,X+aU k=z:=⟨_,rfl⟩
     obtain⟨Q,hQ⟩: ∃z,Y+aV k=z:=⟨_,rfl⟩
     have hPQ: -1≤P∧P≤256∧ -1≤Q∧Q≤256:=by omega
     have HPQ:=aA (And.intro hP hQ)
     rw[hP,hQ]at S1
     have SH:=aA (fun w'=>pE bx byy bw bh P Q w' ff.1 ff.2.1 (by unfold InI;omega) (by unfold InI;omega))
     have u0:=CR.out.at 0 rfl;have u1:=CR.out.at 1 rfl;have uz:=CR.out.lt
     have hgw:=FA.out.lt.2
     clear hF3 hsd hdb hP hQ
     go_wp2_with fail
     refine(S1.out _).mono ?_
     rintro e w7 ⟨rfl,hb7⟩
     go_wp2_with fail
     obtain⟨w8,hw8⟩: ∃w8,w8=w7.alloc (.cells #[.int .i64 P, .int .i64 Q] 28):=⟨_,rfl⟩
     have M8:Hid (Blk w8 w7.heap.size 28 #[.int .i64 P, .int .i64 Q]):=aA (by rw[hw8];exact Blk.new_ rfl)
     have hx78:Ext w7 w8:=by rw[hw8];exact(Ext.refl _).alloc _
     have hxr8:Ext wr w8:=Ext.trans z_x hx78
     have hmb:w7.heap.size<w8.heap.size:=by rw[hw8];simp
     have hmg:w7.heap.size≠g:=by have:=FA.out.lt.2;have:wr.heap.size≤w7.heap.size:=Ext.size (show Ext wr w7 from z_x);omega
     rw[←hw8]
     obtain⟨mb,hmbe⟩: ∃z,w7.heap.size=z:=⟨_,rfl⟩
     rw[hmbe]at M8 hmb hmg⊢
     have FA8:=aA (FA.out.ext hxr8)
     have TD8:=aA (TD.out.trans (Touch.of_ext hxr8))
     have TT8:=aA (TT.out.trans (Touch.of_ext hxr8))
     have B08:=aA (B0r.out.ext hxr8)
     have B18:=aA (B1r.out.ext hxr8)
     have C8:=aA (CR.out.ext hxr8)
     have HR8:=aA (HRr.out.ext hxr8)
     have CC8:=aA (fun(w':World) (hx:Ext w8 w')=>CCX.out w' (HR8.out.ext hx))
     clear hmbe hw8 hx78 hxr8 hb7 hzw u0 u1 uz hgw FA TD TT B0r B1r CR HRr S1
     have p0:=B08.out.at 0 rfl;have p1:=B08.out.at 1 rfl;have p2:=B08.out.at 2 rfl;have pz:=B08.out.lt
     have q0:=B18.out.at 0 rfl;have q1:=B18.out.at 1 rfl;have q2:=B18.out.at 2 rfl;have q3:=B18.out.at 3 rfl;have qz:=B18.out.lt
     have u0:=C8.out.at 0 rfl;have u1:=C8.out.at 1 rfl;have uz:=C8.out.lt
     have v0:=M8.out.at 0 rfl;have v1:=M8.out.at 1 rfl;have vz:=M8.out.lt
     have hgw:=FA8.out.lt.2
     have END0:Hid (relD l W bx byy bw bh F3 X Y k=F3→ ∀w',Ext w8 w'→ ∃(k':Nat) (b3':Bool),k'≤4∧Value.int .i64 ((k:Int)+1)= .int .i64 k'∧Value.bool b3= .bool b3'∧(b3'=false→ ∀v,eE l W bx byy bw bh F2 X Y k' v=far v)∧BdT (r*262144+m*1024+j*4+k') (eE l W bx byy bw bh F2 X Y k')∧FarAt w' (w.heap.size+3) g n (eE l W bx byy bw bh F2 X Y k') n∧Touch (fun k=>k=g) w5 w'):=aA (fun hs w' hx=>by
      have e:eE l W bx byy bw bh F2 X Y (k+1)=F3:=by
       show relD l W bx byy bw bh (eE l W bx byy bw bh F2 X Y k) X Y k=F3
       rw[HF3.out];exact hs
      refine⟨k+1,b3,hk4,by go_num,rfl,?_,?_,?_,TD8.out.trans (Touch.of_ext hx)⟩
      ·rw[e];exact BF3.out
      ·rw[e];exact BT3.out.mono (by omega)
      rw[e];exact FA8.out.ext hx)
     cases hbq:bO bx byy bw bh P Q
     ·rw[hbq]at SH
      have HSM:=aA (END0.out (by unfold relD;rw[if_neg (fun h=>by have h1:=h.1;rw[HPQ.out.1,HPQ.out.2,hbq]at h1;cases h1)]))
      clear hbq END0
      go_wp2_with fail
      refine aS w8 [(0,true),(1,true),(2,false),(3,true),(4,true),(5,true),(6,true),(7,true),(8,true),(9,true),(10,true),(11,true),(12,true),(13,true),(14,true),(15,true),(16,true),(17,true),(18,true),(19,true),(20,true),(21,true),(22,true),(23,true),(24,true),(25,true),(26,true),(27,true),(28,true),(29,true),(30,true),(31,true),(32,true),(33,true),(34,true),(35,true),(36,true),(37,true),(38,true),(39,true),(40,true),(41,true),(42,true),(43,true),(44,true),(45,true),(46,true)] (fun hK0=> ?_)
      iterate 2 (refine SeqH.fr1 ?_;try simp only[zz])
      (refine aP ?_;intro K hK;go_simp;refine(SH.out _).mono ?_;rintro e w9 ⟨rfl,hb9⟩;go_wp2_with fail;refine hK.out _ _ (aI z_x) (fun hK0=> ?_);clear hK K;try simp only[zz])
      iterate 44 (refine SeqH.fr1 ?_;try simp only[zz])
      refine SeqH.done ?_
      have hx9:=hK0.2
      clear hK0 hb9
      go_wp2_with fail
      go_roundw
      case rel=>exact HSM.out _ hx9
      simp[intOf];omega
     rw[hbq]at SH
     have HBQ:=aA hbq
     have pin:=HLP.out.in_ hbq
     have hun:=HLP.out.idx_lt pin
     have hvn:=HLP.out.idx_lt (x:=X) (y:=Y) ⟨hXb.1,hXb.2.1,hYb.1,hYb.2.1⟩
     rw[HN.out]at hun hvn
     have kui:=bT (W:=W) pin.1 (by omega) pin.2.2.1
     have kvi:=bT (W:=W) hXb.1 (by omega) hYb.1
     have e1:=cN (a:=Q) (b:=W) (A:=256) (B:=256) (by omega) (by omega) (by omega) (by omega)
     have e2:=cN (a:=Y) (b:=W) (A:=256) (B:=256) (by omega) (by omega) (by omega) (by omega)
     have k1:IntKind.i64.wrap (Q*W)=Q*W:=IntWalk.i64_in _ (by omega)
     have k2:IntKind.i64.wrap (Q*W+P)=((aC W (P,Q):Nat):Int):=by rw[kui];exact IntWalk.i64_in _ (by omega)
     have k3:IntKind.i64.wrap (Y*W)=Y*W:=IntWalk.i64_in _ (by omega)
     have k4:IntKind.i64.wrap (Y*W+X)=((aC W (X,Y):Nat):Int):=by rw[kvi];exact IntWalk.i64_in _ (by omega)
     have huv:aC W (P,Q)≠aC W (X,Y):=fun e=>by
      have a1:=dQ pin.1 pin.2.1 pin.2.2.1
      have a2:=dR pin.1 pin.2.1 pin.2.2.1
      rw[e,dQ hXb.1 hXb.2.1 hYb.1]at a1
      rw[e,dR hXb.1 hXb.2.1 hYb.1]at a2
      obtain⟨h1,h2⟩:=HPQ.out
      rw[←a1]at h1
      rw[←a2]at h2
      obtain rfl|rfl|rfl|rfl:k=0∨k=1∨k=2∨k=3:=by omega
      all_goals (simp only[aU,aV]at h1 h2;omega)
     have hrel:relD l W bx byy bw bh F3 X Y k=if F3 (aC W (P,Q))≠aJ∧F3 (aC W (P,Q))+aL l W (X,Y)<F3 (aC W (X,Y)) then bQ F3 (aC W (X,Y)) (F3 (aC W (P,Q))+aL l W (X,Y)) else F3:=by
      unfold relD
      rw[HPQ.out.1,HPQ.out.2,hbq]
      simp
     rw[HCS.out]at hrel
     obtain⟨u,hu⟩: ∃z,aC W (P,Q)=z:=⟨_,rfl⟩
     obtain⟨v,hv⟩: ∃z,aC W (X,Y)=z:=⟨_,rfl⟩
     rw[hu]at hun k2 hrel huv
     rw[hv]at hvn k4 hrel huv
     have fu:=(FA8.out.cell hun).1
     have fv:=(FA8.out.cell hvn).1
     have hsum:=fun h=>BdT.sum (W:=W) HU.out BT3.out (by omega) (u:=u) h X Y
     rw[HCS.out]at hsum
     have hu0:=(BT3.out u).1
     obtain⟨uu,huu⟩: ∃z,F3 u=z:=⟨_,rfl⟩
     obtain⟨vv,hvv⟩: ∃z,F3 v=z:=⟨_,rfl⟩
     rw[huu]at fu hrel hsum hu0
     rw[hvv]at fv hrel
     have HREL:=aA hrel
     have j1:(u:Int)<(n:Int):=by omega
     have j2:(v:Int)<(n:Int):=by omega
     have HUV:=aA huv
     have HVN:=aA hvn
     clear hbq kui kvi e1 e2 hrel hu hv huu hvv huv pin
     by_cases hinf:uu=18446744073709551615
     ·subst hinf
      have HSM:=aA (END0.out (by rw[HREL.out,if_neg (fun h=>h.1 rfl)]))
      clear END0 HREL hsum
      go_wp2_with fail
      refine aS w8 [(0,true),(1,true),(2,false),(3,true),(4,true),(5,true),(6,true),(7,true),(8,true),(9,true),(10,true),(11,true),(12,true),(13,true),(14,true),(15,true),(16,true),(17,true),(18,true),(19,true),(20,true),(21,true),(22,true),(23,true),(24,true),(25,true),(26,true),(27,true),(28,true),(29,true),(30,true),(31,true),(32,true),(33,true),(34,true),(35,true),(36,true),(37,true),(38,true),(39,true),(40,true),(41,true),(42,true),(43,true),(44,true),(45,true),(46,true)] (fun hK0=> ?_)
      iterate 2 (refine SeqH.fr1 ?_;try simp only[zz])
      (refine aP ?_;intro K hK;go_simp;refine(SH.out _).mono ?_;rintro e w9 ⟨rfl,hb9⟩;go_wp2_with fail;refine hK.out _ _ (aI z_x) (fun hK0=> ?_);clear hK K;try simp only[zz])
      iterate 44 (refine SeqH.fr1 ?_;try simp only[zz])
      refine SeqH.done ?_
      have hx9:=hK0.2
      clear hK0 hb9
      go_wp2_with fail
      go_roundw
      case rel=>exact HSM.out _ hx9
      simp[intOf];omega
     have hs:=hsum hinf
     have k5:IntKind.u64.wrap (uu+cst)=uu+cst:=by rw[IntKind.wrap_u64];omega
     have k6:(uu !=18446744073709551615)=true:=by simpa using hinf
     have HINF:=aA hinf
     clear hsum hs hinf
     by_cases hless:uu+cst<vv
     ·have hl:decide (uu+cst<vv)=true:=by simpa using hless
      have REL:Hid (∀w',Ext w8 w'→ ∃(k':Nat) (b3':Bool),k'≤4∧Value.int .i64 ((k:Int)+1)= .int .i64 k'∧Value.bool true= .bool b3'∧(b3'=false→ ∀v,eE l W bx byy bw bh F2 X Y k' v=far v)∧BdT (r*262144+m*1024+j*4+k') (eE l W bx byy bw bh F2 X Y k')∧FarAt (w'.setCell ⟨g,v,none⟩ (.int .u64 (uu+cst))) (w.heap.size+3) g n (eE l W bx byy bw bh F2 X Y k') n∧Touch (fun k=>k=g) w5 (w'.setCell ⟨g,v,none⟩ (.int .u64 (uu+cst)))):=aA (fun w' hx=>by
       have e0:eE l W bx byy bw bh F2 X Y (k+1)=relD l W bx byy bw bh F3 X Y k:=by
        show relD l W bx byy bw bh (eE l W bx byy bw bh F2 X Y k) X Y k=_
        rw[HF3.out]
       have e:eE l W bx byy bw bh F2 X Y (k+1)=bQ F3 v (uu+cst):=by
        rw[e0,HREL.out,if_pos ⟨HINF.out,hless⟩]
       refine⟨k+1,true,hk4,by go_num,rfl,fun h=>(by cases h),?_,?_,?_⟩
       ·rw[e0];exact(BdT.relD HU.out BT3.out (by omega) X Y k).mono (by omega)
       ·rw[e];exact(FA8.out.ext hx).turn HVN.out _
       exact(TD8.out.trans (Touch.of_ext hx)).setCell (p:=⟨g,v,none⟩) (.inl rfl) _)
      have L8:Hid (CellsAt [(⟨w.heap.size,0,none⟩, .int .i64 W),(⟨w.heap.size,1,none⟩, .int .i64 H),(⟨w.heap.size,2,none⟩, .slice (some ⟨ab,aoff,none⟩) n c),(⟨mb,0,none⟩, .int .i64 P),(⟨mb,1,none⟩, .int .i64 Q),(⟨cb,0,none⟩, .int .i64 X),(⟨cb,1,none⟩, .int .i64 Y),(⟨g,u,none⟩, .int .u64 uu)] w8):=aA ⟨p0,p1,p2,v0,v1,u0,u1,fu,trivial⟩
      have HNE:Hid (∀p∈([(⟨w.heap.size,0,none⟩, .int .i64 W),(⟨w.heap.size,1,none⟩, .int .i64 H),(⟨w.heap.size,2,none⟩, .slice (some ⟨ab,aoff,none⟩) n c),(⟨mb,0,none⟩, .int .i64 P),(⟨mb,1,none⟩, .int .i64 Q),(⟨cb,0,none⟩, .int .i64 X),(⟨cb,1,none⟩, .int .i64 Y),(⟨g,u,none⟩, .int .u64 uu)]:List (Addr×Value)),p.1≠⟨g,v,none⟩):=aA (by
       have hBg:=HG.out
       have huv:=HUV.out
       intro p hp e
       simp only[List.mem_cons,List.not_mem_nil,or_false]at hp
       rcases hp with rfl|rfl|rfl|rfl|rfl|rfl|rfl|rfl
       all_goals (simp only[Addr.mk.injEq]at e;omega))
      clear END0 HREL hless
      go_wp2_with fail
      refine aS w8 [(0,true),(1,true),(2,false),(3,true),(4,true),(5,true),(6,true),(7,true),(8,true),(9,true),(10,true),(11,true),(12,true),(13,true),(14,true),(15,true),(16,true),(17,true),(18,true),(19,true),(20,true),(21,true),(22,true),(23,true),(24,true),(25,true),(26,true),(27,true),(28,true),(29,true),(30,true),(31,true),(32,true),(35,true),(36,true),(37,true),(38,true),(39,true),(40,true),(41,true),(42,true),(43,true),(44,true),(33,false),(34,true),(45,true),(46,true)] (fun hK0=> ?_)
      iterate 2 (refine SeqH.fr1 ?_;try simp only[zz])
      (refine aP ?_;intro K hK;go_simp;refine(SH.out _).mono ?_;rintro e w9 ⟨rfl,hb9⟩;go_wp2_with fail;refine hK.out _ _ (aI z_x) (fun hK0=> ?_);clear hK K;try simp only[zz])
      iterate 40 (refine SeqH.fr1 ?_;try simp only[zz])
      (refine aP ?_;intro K hK;go_simp;refine(CC8.out _ z_x).mono ?_;rintro e w10 ⟨rfl,hb10⟩;go_wp2_with fail;refine hK.out _ _ (aI z_x) (fun hK0=> ?_);clear hK K;try simp only[zz])
      iterate 3 (refine SeqH.fr1 ?_;try simp only[zz])
      refine SeqH.done ?_
      have HX10:=aA hK0.2
      have L10:=aA (L8.out.ext HX10.out)
      clear hK0 hb9 hb10 p0 p1 p2 pz q0 q1 q2 q3 qz v0 v1 vz u0 u1 uz fu fv hgw
      go_wp2_with fail
      refine bM (S:=(CellsAt [(⟨w.heap.size,0,none⟩, .int .i64 W),(⟨w.heap.size,1,none⟩, .int .i64 H),(⟨w.heap.size,2,none⟩, .slice (some ⟨ab,aoff,none⟩) n c),(⟨mb,0,none⟩, .int .i64 P),(⟨mb,1,none⟩, .int .i64 Q),(⟨cb,0,none⟩, .int .i64 X),(⟨cb,1,none⟩, .int .i64 Y),(⟨g,u,none⟩, .int .u64 uu)])) [(0,true),(1,true),(2,true),(3,true),(4,true),(5,true),(6,true),(7,true),(8,true),(9,true),(10,true),(11,true),(12,true),(13,true),(14,true),(15,true),(16,true),(17,true),(18,true),(19,true),(20,true),(21,true),(22,false),(23,true),(24,true),(25,false)] (by kernel_rfl) (by kernel_rfl) (by kernel_rfl) (by decide) (fun _ _ d _ _ h=>by cases d<;>exact h) (CellsAt.ext ((Ext.refl _).drew) L10.out) (fun hK0=> ?_)
      iterate 22 (refine SeqH.fr2 ?_;try simp only[zz])
      (refine aP ?_;intro K hK;go_simp;refine(CC8.out _ (HX10.out.trans z_x)).mono ?_;rintro e w11 ⟨rfl,hx11⟩;have hx12:Ext w8 w11:=HX10.out.trans z_x;have L11:=aA (L8.out.ext hx12);have HX12:=aA hx12;have f11:=(FA8.out.ext hx12).cell HVN.out;have fv1:=f11.1;have fv2:=f11.2;clear f11 hx12;go_wp2_with fail;refine hK.out _ _ (L11.out) (fun hK0=> ?_);clear hK K;try simp only[zz])
      iterate 2 (refine SeqH.fr2 ?_;try simp only[zz])
      (refine aP ?_;intro K hK;go_simp;refine hK.out _ _ (CellsAt.set HNE.out L11.out) (fun hK0=> ?_);clear hK K;try simp only[zz])
      refine SeqH.done ?_
      clear hK0 fv1 fv2 hx11
      go_wp2_with fail
      go_roundw
      case rel=>exact REL.out _ HX12.out
      simp[intOf];omega
     have hl:decide (uu+cst<vv)=false:=by simpa using hless
     have HSM:=aA (END0.out (by rw[HREL.out,if_neg (fun h=>hless h.2)]))
     clear END0 HREL hless
     go_wp2_with fail
     refine aS w8 [(0,true),(1,true),(2,false),(3,true),(4,true),(5,true),(6,true),(7,true),(8,true),(9,true),(10,true),(11,true),(12,true),(13,true),(14,true),(15,true),(16,true),(17,true),(18,true),(19,true),(20,true),(21,true),(22,true),(23,true),(24,true),(25,true),(26,true),(27,true),(28,true),(29,true),(30,true),(31,true),(32,true),(35,true),(36,true),(37,true),(38,true),(39,true),(40,true),(41,true),(42,true),(43,true),(44,true),(33,false),(34,true),(45,true),(46,true)] (fun hK0=> ?_)
     iterate 2 (refine SeqH.fr1 ?_;try simp only[zz])
     (refine aP ?_;intro K hK;go_simp;refine(SH.out _).mono ?_;rintro e w9 ⟨rfl,hb9⟩;go_wp2_with fail;refine hK.out _ _ (aI z_x) (fun hK0=> ?_);clear hK K;try simp only[zz])
     iterate 40 (refine SeqH.fr1 ?_;try simp only[zz])
     (refine aP ?_;intro K hK;go_simp;refine(CC8.out _ z_x).mono ?_;rintro e w10 ⟨rfl,hb10⟩;go_wp2_with fail;refine hK.out _ _ (aI z_x) (fun hK0=> ?_);clear hK K;try simp only[zz])
     iterate 3 (refine SeqH.fr1 ?_;try simp only[zz])
     refine SeqH.done ?_
     have hx9:=hK0.2
     clear hK0 hb9
     go_wp2_with fail
     go_roundw
     case rel=>exact HSM.out _ hx9
     simp[intOf];omega
    obtain rfl:k=4:=by omega
    go_wp2_with fail
    go_roundw
    case rel=>exact⟨j+1,b3,by omega,sK _ _ HXX.out,rfl,by rw[HNX.out];exact BF3.out,by rw[HNX.out];exact BT3.out.mono (by omega),by rw[HNX.out];exact FA.out,TT.out⟩
    simp only[intOf];omega
   have hjb2:(j:Int)=bw:=by omega
   have HNX:Hid (kI l W bx byy bw bh far (m+1)=hZ l W bx byy bw bh F1 Y j):=aA (by
    show hZ l W bx byy bw bh (kI l W bx byy bw bh far m) (byy+m) bw.toNat=_
    rw[HF1.out,HY.out,show bw.toNat=j by omega])
   have hj256:j≤256:=by omega
   clear hjb2
   go_wp2_with fail
   go_roundw
   case rel=>exact⟨m+1,bb,by omega,sK _ _ HY.out,rfl,by rw[HNX.out];exact BF2.out,by rw[HNX.out];exact BT2.out.mono (by omega),by rw[HNX.out];exact FA.out,TT.out⟩
   simp only[intOf];omega
  have hmb2:(m:Int)=bh:=by omega
  have HNX:Hid (kI l W bx byy bw bh far m=rnd l W bx byy bw bh far):=aA (by unfold rnd;rw[show bh.toNat=m by omega])
  have hm256:m≤256:=by omega
  clear hmb2
  cases b
  ·have hD:=Rnds.still (s:=s) HLP.out (by rw[←HS.out];exact FF.out) (by rw[HN.out];exact RR.out) (fun v=>by rw[←HNX.out];exact BF.out rfl v)
   have HE:Hid (FarAt wr (w.heap.size+3) g n D n):=aA (FA.out.congr (fun v _=>(BF.out rfl v).trans (hD v)))
   clear hD
   go_wp2_with fail
   go_ret
   exact⟨_,rfl,HXw.out,Own.lower (base:=w.heap.size+3) HE.out (Nat.le_add_right _ _)⟩
  have RN:=aA (Rnds.next (s:=s) HLP.out (by rw[←HS.out];exact FF.out) (by rw[HN.out];exact RR.out))
  rw[HN.out]at RN
  go_wp2_with fail
  go_roundw
  case rel=>exact⟨r+1,_,hlt,by go_num,RN.out,by rw[←HNX.out];exact BT1.out.mono (by omega),by rw[←HNX.out];exact FA.out,TT.out⟩
  simp[intOf];omega
 obtain rfl:r=n:=by omega
 have HE:Hid (FarAt wr (w.heap.size+3) g r D r):=aA (FA.out.congr (fun v _=>RR.out.full v))
 have HXw:=aA hxw
 clear hxw
 go_wp2_with fail
 go_ret
 exact⟨_,rfl,HXw.out,Own.lower (base:=w.heap.size+3) HE.out (Nat.le_add_right _ _)⟩
end Go.Proofs.YtaellcgglldjaaaGreat

