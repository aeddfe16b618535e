/- Part of a proof: RefD. -/
import Derived.Test.YtaellcgglldjaaaGreatHierNodesQ04
set_option linter.all false
set_option linter.unusedVariables false
set_option linter.unusedSimpArgs false
namespace Go.Proofs.YtaellcgglldjaaaGreat
open Go.RowKit
set_option maxHeartbeats 1000000 in
theorem aLc (b off c:Nat) (l:List (aB×aB)) (x y:Int) (w:World) (hl:l.length≤1000000) (hb:b<w.heap.size) (h1:PairsAt w b off l) (hn:xN l) (hx:InI x) (hy:InI y):
  Calls Tryz.prog 57 #[.slice (some ⟨b,off,none⟩) l.length c, .agg #[.int .i64 x, .int .i64 y]] w fun e w'=>e= .returned (.int .i64 (fOf l x y))∧Ext w w':=by
 have H1:=aA h1
 have HN:=aA hn
 have HX:=aA hx
 have HY:=aA hy
 clear h1 hn hx hy
 go_enter Tryz.func57,Tryz.ntmps57
 go_wp2
 obtain⟨w0,hw0⟩: ∃w0,w0=w.alloc (.cells #[.int .i64 x, .int .i64 y] 28):=⟨_,rfl⟩
 have hx0:Ext w w0:=by rw[hw0];exact z_x
 have c0:w0.cell? ⟨w.heap.size,0,none⟩=some (.int .i64 x):=by rw[hw0];simp[go_sem]
 have c1:w0.cell? ⟨w.heap.size,1,none⟩=some (.int .i64 y):=by rw[hw0];simp[go_sem]
 have z0:w.heap.size<w0.heap.size:=by rw[hw0];simp
 rw[←hw0]
 clear hw0
 go_loopw [5] (fun i wr=> ∃k:Nat,k≤l.length∧i= .int .i64 k∧(∀j (hj:j<k) (hj':j<l.length),cV x y l[j]=false)∧Ext w0 wr) (fun i _=>l.length-(intOf i).toNat)
 case atStart=>exact⟨0,Nat.zero_le _,rfl,fun j hj=>by omega,Ext.refl _⟩
 case round=>
  obtain⟨k,hk,rfl,hall,hext⟩:=hrel
  have HA:=aA hall
  clear hall
  have e0:=(hext.cell (p:=⟨w.heap.size,0,none⟩) z0).trans c0
  have e1:=(hext.cell (p:=⟨w.heap.size,1,none⟩) z0).trans c1
  have hz:=hext.size
  have zb:b<wr.heap.size:=by omega
  have zw:w.heap.size<wr.heap.size:=by omega
  by_cases hlt:k<l.length
  ·obtain⟨d1,d2,d3,d4⟩:=((H1.out.ext hb hx0).ext (by omega) hext) k hlt
   obtain⟨n1,n2⟩:=HN.out k hlt
   cases hh:bL l[k].1.1 l[k].1.2 l[k].2.1 l[k].2.2 x y
   all_goals
    go_wp2
    go_region_held3 (fun W=>(∀b o,b<wr.heap.size→W.cell? ⟨b,o,none⟩=wr.cell? ⟨b,o,none⟩)∧Ext wr W) (first|with_reducible exact aI _|exact aE z_x)
     (first|(go_at_call 103;refine(rU l[k].1.1 l[k].1.2 l[k].2.1 l[k].2.2 x y _ n1 n2 HX.out HY.out).mono ?_;rintro e w1 ⟨rfl,hb1⟩))
   ·go_wp2
    go_roundw
    case rel=>exact⟨k+1,by omega,by go_num,fun j hj hj'=>by
          by_cases e:j=k
          ·subst e;exact hh
          ·exact HA.out j (by omega) hj',z_x⟩
    case measure=>simp[intOf];omega
   ·go_wp2
    go_ret
    exact⟨by unfold fOf;rw[uB hlt (fun j hj=>HA.out j hj (by omega)) hh];rfl,z_x⟩
  ·go_wp2
   go_ret
   exact⟨by unfold fOf;rw[uR (fun j hj=>HA.out j (by omega) hj)];rfl,z_x⟩
theorem aL8 (v:Value) (l:List (aB×aB)) (x y:Int) (w:World) (hl:l.length≤1000000) (h0:0<l.length) (hr:Reads aS w v l) (hn:xN l) (hx:InI x) (hy:InI y):
  Calls Tryz.prog 57 #[v, .agg #[.int .i64 x, .int .i64 y]] w fun e w'=>e= .returned (.int .i64 (fOf l x y))∧Ext w w':=by
 rcases hr with⟨rfl,rfl⟩|⟨b,off,c,rfl,hb1,hc⟩
 ·simp at h0
 ·have i1:=(Reads.pairs (.inr ⟨b,off,c,rfl,hb1,hc⟩:Reads aS w (.slice (some ⟨b,off,none⟩) l.length c) l)).2
  exact aLc b off c l x y w hl hb1 i1 hn hx hy
end Go.Proofs.YtaellcgglldjaaaGreat

