/- Part of a proof: RefC. -/
import Derived.Test.YtaellcgglldjaaaGreatHierFindsQ02
import Derived.Test.YtaellcgglldjaaaGreatHierFindsQ03
set_option linter.all false
set_option linter.unusedVariables false
set_option linter.unusedSimpArgs false
namespace Go.Proofs.YtaellcgglldjaaaGreat
open Go.RowKit
theorem aKv:cH Tryz.prog 111 71 (.agg #[.int .i64 0, .int .i64 0, .int .i64 0, .int .i64 0]) 4 32:=⟨Tryz.underlying111,by kernel_rfl,rfl,by decide⟩
def dV (W H s y:Int) (n:Nat):List (aB×aB):=(List.range n).map fun i:Nat=>(((i:Int)*s,y),(min s (W-(i:Int)*s),min s (H-y)))
def eN (W H s:Int) (n:Nat):List (aB×aB):=(List.range n).flatMap fun j:Nat=>dV W H s ((j:Int)*s) (acr W s).toNat
theorem xJ (W H s y:Int) (n:Nat):dV W H s y (n+1)=dV W H s y n++[(((n:Int)*s,y),(min s (W-(n:Int)*s),min s (H-y)))]:=by
 simp[dV,List.range_succ]
theorem nN (W H s:Int) (n:Nat):eN W H s (n+1)=eN W H s n++dV W H s ((n:Int)*s) (acr W s).toNat:=by
 simp[eN,List.range_succ]
theorem qM (W H s y:Int) (n:Nat):(dV W H s y n).length=n:=by simp[dV]
theorem jK (W H s:Int) (n:Nat):(eN W H s n).length=n*(acr W s).toNat:=by
 induction n with
 |zero=>simp[eN]
 |succ n ih=>rw[nN,List.length_append,ih,qM,Nat.add_mul];omega
theorem aFc {n s:Int} (hs:1≤s) (i:Nat):(i:Int)*s<n↔i<(acr n s).toNat:=by
 unfold acr
 constructor
 ·intro h
  have h2:(i:Int)+1≤(n+s-1)/s:=by
   rw[Int.le_ediv_iff_mul_le (by omega),Int.add_mul]
   omega
  omega
 intro h
 have h2:(i:Int)+1≤(n+s-1)/s:=by omega
 rw[Int.le_ediv_iff_mul_le (by omega),Int.add_mul]at h2
 omega
def aIb (w:World) (L:List (aB×aB)) (e:Ending) (w':World):Prop:= ∃v,e= .returned v∧Ext w w'∧Own aT w' w.heap.size 71 v L
set_option maxHeartbeats 1000000 in
theorem tU (W H s:Int) (w:World) (hr:aK W H s=true):
  Calls Tryz.prog 46 #[.agg #[.int .i64 W, .int .i64 H], .int .i64 s] w (aIb w (eN W H s (acr H s).toNat)):=by
 obtain⟨h1,h2,h3,h4,h5,h6⟩:=rightB_true.1 hr
 have b1:=bU W s h5 h6 h1 h2
 have b2:=bU H s h5 h6 h3 h4
 obtain⟨aH,hH⟩: ∃n:Nat,n=(acr H s).toNat:=⟨_,rfl⟩
 obtain⟨aW,hW⟩: ∃n:Nat,n=(acr W s).toNat:=⟨_,rfl⟩
 rw[←hH]
 have HH:=aA hH
 have HW:=aA hW
 have hH':aH≤256:=by omega
 have hW':aW≤256:=by omega
 clear hH hW b1 b2 hr
 go_enter Tryz.func46,Tryz.ntmps46
 go_wp2
 obtain⟨w0,hw0⟩: ∃w0,w0=(w.alloc (.cells #[.int .i64 W, .int .i64 H] 23)).alloc (.cells #[] 71):=⟨_,rfl⟩
 have hx0:Ext w w0:=by rw[hw0];exact z_x
 have c0:w0.cell? ⟨w.heap.size,0,none⟩=some (.int .i64 W):=by rw[hw0];simp[go_sem]
 have c1:w0.cell? ⟨w.heap.size,1,none⟩=some (.int .i64 H):=by rw[hw0];simp[go_sem]
 have z0:w.heap.size<w0.heap.size:=by rw[hw0];simp;omega
 have o0:Own aT w0 (w.heap.size+1) 71 (.slice (some ⟨w.heap.size+1,0,none⟩) 0 0) []:=by rw[hw0];exact Own.lit0 _ _ _ _ _ (by simp) (Nat.le_refl _)
 rw[←hw0]
 have O0:=aA o0
 clear hw0 o0
 go_loopw [5,6] (fun out y wr=> ∃j:Nat,j≤aH∧y= .int .i64 ((j:Int)*s)∧Own aT wr (w.heap.size+1) 71 out (eN W H s j)∧Below (w.heap.size+1) w0 wr) (fun _ y _=>(H-intOf y).toNat)
 case atStart=>exact⟨0,Nat.zero_le _,by simp,O0.out,Below.refl _ _⟩
 obtain⟨j,hj,rfl,hown,hbel⟩:=hrel
 have d0:=(hbel.cell (p:=⟨w.heap.size,0,none⟩) (by simp)).trans c0
 have d1:=(hbel.cell (p:=⟨w.heap.size,1,none⟩) (by simp)).trans c1
 have hz:=hbel.size
 have hjs:=aFc (n:=H) (s:=s) (by omega) j
 rw[←HH.out]at hjs
 have jb:=cN (a:=(j:Int)) (b:=s) (A:=256) (B:=16) (by omega) (by omega) (by omega) (by omega)
 have HO:=aA hown
 clear hown
 by_cases hlt:j<aH
 ·have hyl:(j:Int)*s<H:=hjs.2 hlt
  have hjn:((j+1:Nat):Int)*s=(j:Int)*s+s:=by rw[Int.natCast_add,Int.add_mul];simp
  have HJ:=aA hjn
  clear hjs hjn
  obtain⟨y,hy⟩: ∃y:Int,y=(j:Int)*s:=⟨_,rfl⟩
  rw[←hy]at jb hyl⊢
  have HY:=aA hy
  clear hy
  have l1:=jK W H s j
  rw[←HW.out]at l1
  have l1':(eN W H s j).length≤65536:=by rw[l1];exact Nat.mul_le_mul (show j≤256 by omega) hW'
  clear l1
  obtain⟨wo,rfl⟩: ∃wo:World,wo=wr:=⟨_,rfl⟩
  go_wp2
  go_loopw [5,7] (fun out x wi=> ∃i:Nat,i≤aW∧x= .int .i64 ((i:Int)*s)∧Own aT wi (w.heap.size+1) 71 out (eN W H s j++dV W H s y i)∧Below (w.heap.size+1) wo wi) (fun _ x _=>(W-intOf x).toNat)
  case atStart=>exact⟨0,Nat.zero_le _,by simp,by simpa [dV] using HO.out,Below.refl _ _⟩
  obtain⟨i,hi,rfl,hown',hbel'⟩:=hrel
  have e0:=(hbel'.cell (p:=⟨w.heap.size,0,none⟩) (by simp)).trans d0
  have e1:=(hbel'.cell (p:=⟨w.heap.size,1,none⟩) (by simp)).trans d1
  have hz':=hbel'.size
  have his:=aFc (n:=W) (s:=s) (by omega) i
  rw[←HW.out]at his
  have ib:=cN (a:=(i:Int)) (b:=s) (A:=256) (B:=16) (by omega) (by omega) (by omega) (by omega)
  have HO':=aA hown'
  clear hown'
  have l2:=qM W H s y i
  have l3:(eN W H s j++dV W H s y i).length≤70000:=by rw[List.length_append,l2];omega
  clear l2
  by_cases hlt':i<aW
  ·have hxl:(i:Int)*s<W:=his.2 hlt'
   have hin:((i+1:Nat):Int)*s=(i:Int)*s+s:=by rw[Int.natCast_add,Int.add_mul];simp
   have HI:=aA hin
   clear his hin
   have HS:=aA (xJ W H s y i)
   obtain⟨x,hx⟩: ∃x:Int,x=(i:Int)*s:=⟨_,rfl⟩
   rw[←hx]at ib hxl⊢
   have HX:=aA hx
   clear hx
   have zr:w.heap.size<wr.heap.size:=by omega
   go_wp2_with (at_builtin;refine dA aT aKv rfl _ _ rfl (w.heap.size+1) _ _ (eN W H s j++dV W H s y i) rfl (HO'.out.alloc _) ((x,y),(min s (W-x),min s (H-y))) _ _ (by simp[aT];omega) _ (by simp) rfl (by omega) (by omega) (by simp;omega) ?_;intro g c w9 hown9 hb9;have HO9:=aA hown9;clear hown9)
   all_goals
    go_roundw
    case rel=>exact⟨i+1,by omega,by rw[HI.out,←HX.out],by have h9:=HO9.out;rw[List.length_append]at h9;rw[HS.out,←HX.out,←List.append_assoc];exact h9,hbel'.trans (((Below.refl _ _).alloc (by omega) _).trans hb9)⟩
    simp[intOf];omega
  obtain rfl:i=aW:=by omega
  have hxg: ¬(i:Int)*s<W:=fun h=>hlt' (his.1 h)
  clear his
  obtain⟨x,hx⟩: ∃x:Int,x=(i:Int)*s:=⟨_,rfl⟩
  rw[←hx]at ib hxg⊢
  clear hx
  go_wp2
  go_roundw
  case rel=>exact⟨j+1,by omega,by rw[HJ.out,←HY.out],by rw[nN,←HW.out,←HY.out];exact HO'.out,hbel.trans hbel'⟩
  simp[intOf];omega
 obtain rfl:j=aH:=by omega
 have hyg: ¬(j:Int)*s<H:=fun h=>hlt (hjs.1 h)
 clear hjs
 obtain⟨y,hy⟩: ∃y:Int,y=(j:Int)*s:=⟨_,rfl⟩
 rw[←hy]at jb hyg⊢
 clear hy
 go_wp2
 go_ret
 exact⟨_,rfl,hx0.of_below hbel (by omega),HO.out.lower (by omega)⟩
def mK {α:Type} (p:α→Bool) (l:List α):Int:=match l.findIdx? p with
 |some i=>i
 |none=> -1
theorem uM {α:Type} {p:α→Bool} {l:List α} {k:Nat} (hk:k<l.length) (h: ∀j (hj:j<k),p (l[j]'(by omega))=false) (hp:p l[k]=true):mK p l=k:=by
 have:l.findIdx? p=some k:=by
  rw[List.findIdx?_eq_some_iff_getElem]
  exact⟨hk,hp,fun j hj=>by simpa using h j hj⟩
 simp[mK,this]
theorem vX {α:Type} {p:α→Bool} {l:List α} (h: ∀j (hj:j<l.length),p l[j]=false):mK p l= -1:=by
 have:l.findIdx? p=none:=by
  rw[List.findIdx?_eq_none_iff]
  intro x hx
  obtain⟨j,hj,rfl⟩:=List.getElem_of_mem hx
  exact h j hj
 simp[mK,this]
theorem Own.pos {α:Type} {E:Enc α} {w:World} {base:Nat} {e:TypeId} {v:Value} {l:List α} (h:Own E w base e v l) (hl:0<l.length): ∃g c,v= .slice (some ⟨g,0,none⟩) l.length c∧base≤g∧g<w.heap.size:=by
 rcases h.2 with⟨_,hn⟩|⟨g,cap,cur,hv,hb,hg,_⟩
 ·omega
 exact⟨g,cap,hv,hb,lt_of_block hg⟩
theorem Reads.pair_at {w:World} {g n c:Nat} {l:List (aB×aB)} (h:Reads aT w (.slice (some ⟨g,0,none⟩) n c) l) {k:Nat} {p:aB×aB} (hk:l[k]? =some p):
  w.cell? ⟨g,k*4,none⟩=some (.int .i64 p.1.1)∧w.cell? ⟨g,k*4+1,none⟩=some (.int .i64 p.1.2)∧w.cell? ⟨g,k*4+2,none⟩=some (.int .i64 p.2.1)∧w.cell? ⟨g,k*4+3,none⟩=some (.int .i64 p.2.2):=by
 have hlt:=(zJ hk).1
 have:=h.pairs.2 k hlt
 rw[zG hlt]at hk
 have hk':=Option.some.inj hk
 rw[hk']at this
 simpa using this
def dE (x y:Int) (b:aB×aB):Bool:=bO b.1.1 b.1.2 b.2.1 b.2.2 x y
def fOf (l:List (aB×aB)) (x y:Int):Int:=mK (dE x y) l
def xT (l:List (aB×aB)):Prop:= ∀k (h:k<l.length),0≤l[k].1.1∧0≤l[k].1.2
theorem PairsAt.below {w w':World} {b off:Nat} {l:List (aB×aB)} (h:PairsAt w b off l) {B:Nat} (hb:b<B) (he:Below B w w'):PairsAt w' b off l:=
 fun k hk=>⟨(he.cell (p:=⟨b,_,none⟩) hb).trans (h k hk).1,(he.cell (p:=⟨b,_,none⟩) hb).trans (h k hk).2.1,(he.cell (p:=⟨b,_,none⟩) hb).trans (h k hk).2.2.1,(he.cell (p:=⟨b,_,none⟩) hb).trans (h k hk).2.2.2⟩
def bJ (W H s id:Int):aB×aB:=((aR W s id,aO W s id),(aZ W s id,bA W H s id))
theorem aFm {W H s:Int} (ha:1≤acr W s) (n k:Nat) (h:k<n*(acr W s).toNat):(eN W H s n)[k]? =some (bJ W H s k):=by
 induction n with
 |zero=>simp at h
 |succ n ih=>
  obtain⟨a,hA⟩: ∃a:Nat,acr W s=(a:Int):=⟨(acr W s).toNat,by omega⟩
  rw[nN]
  rw[hA,Int.toNat_natCast]at h ih⊢
  by_cases hk:k<n*a
  ·rw[List.getElem?_append_left (by rw[jK,hA,Int.toNat_natCast];exact hk)]
   exact ih hk
  have hlen:(eN W H s n).length=n*a:=by rw[jK,hA,Int.toNat_natCast]
  rw[List.getElem?_append_right (by omega),hlen]
  have hka:k-n*a<a:=by rw[Nat.add_mul]at h;omega
  have hdiv:k/a=n:=by
   rw[Nat.div_eq_iff (by omega)]
   constructor
   ·rw[Nat.mul_comm]at hk;rw[Nat.mul_comm];omega
   rw[Nat.add_mul]at h;omega
  have hmod:k% a=k-n*a:=by
   have:=Nat.mod_add_div k a
   rw[hdiv,Nat.mul_comm a n]at this
   omega
  have hX:aR W s k=((k-n*a:Nat):Int)*s:=by
   unfold aR;rw[hA,show((k:Int)% (a:Int))=((k% a:Nat):Int) from rfl,hmod]
  have hY:aO W s k=(n:Int)*s:=by
   unfold aO;rw[hA,show((k:Int)/(a:Int))=((k/a:Nat):Int) from rfl,hdiv]
  simp only[dV,List.getElem?_map,List.getElem?_range hka,Option.map_some,bJ,aZ,bA,hX,hY]
def bF (W H s:Int):List (aB×aB):=eN W H s (acr H s).toNat
theorem cQ {W H s:Int} (hr:aK W H s=true):((bF W H s).length:Int)=cnt W H s:=by
 obtain⟨h1,h2,h3,h4,h5,h6⟩:=rightB_true.1 hr
 have b1:=bU W s h5 h6 h1 h2
 have b2:=bU H s h5 h6 h3 h4
 unfold bF cnt
 rw[jK,Int.natCast_mul,Int.mul_comm,Int.toNat_of_nonneg (by omega),Int.toNat_of_nonneg (by omega)]
theorem fW {W H s:Int} (hr:aK W H s=true) (k:Nat) (h:(k:Int)<cnt W H s):(bF W H s)[k]? =some (bJ W H s k):=by
 obtain⟨h1,h2,h3,h4,h5,h6⟩:=rightB_true.1 hr
 have b1:=bU W s h5 h6 h1 h2
 have hl:=cQ hr
 unfold bF at hl⊢
 rw[jK]at hl
 exact aFm b1.1 _ k (by omega)
theorem mF {W H s:Int} (hr:aK W H s=true) (k:Nat) (h:k<(bF W H s).length):(bF W H s)[k]=bJ W H s k:=by
 have h':=fW hr k (by rw[←cQ hr];omega)
 rw[zG h]at h'
 exact Option.some.inj h'
theorem jJ {W H s:Int} (hr:aK W H s=true):xT (bF W H s):=by
 intro k h
 have h':(k:Int)<cnt W H s:=by rw[←cQ hr];omega
 rw[mF hr k h]
 have:=eM hr (by omega) h'
 exact⟨this.1,this.2.2.1⟩
theorem oT {x s u:Int} (hs:0<s) (h1:u*s≤x) (h2:x<u*s+s):x/s=u:=by
 have a1:u≤x/s:=(Int.le_ediv_iff_mul_le hs).2 h1
 have a2:x/s<u+1:=Int.ediv_lt_of_lt_mul hs (by rw[Int.add_mul];omega)
 omega
theorem kL {W s x:Int} (hs:1≤s) (h0:0≤x) (hx:x<W):x/s<acr W s:=by
 unfold acr
 have h1:x/s≤(W-1)/s:=Int.ediv_le_ediv (by omega) (by omega)
 have h2:(W+s-1)/s=(W-1)/s+1:=by
  rw[show W+s-1=(W-1)+s*1 from by omega,Int.add_mul_ediv_left _ _ (by omega)]
 omega
theorem kB {W H s x y:Int} (hr:aK W H s=true) (hi:inB W H x y=true) {id:Int} (h0:0≤id) (hid:id<cnt W H s):dE x y (bJ W H s id)=true↔id=ofN W s x y:=by
 obtain⟨h1,h2,h3,h4,h5,h6⟩:=rightB_true.1 hr
 obtain⟨_,_,_,_,i1,i2,i3,i4⟩:=inB_true.1 hi
 have b1:=bU W s h5 h6 h1 h2
 unfold dE bJ
 rw[hasB_true]
 unfold aZ bA aR aO ofN
 have e1:=Int.emod_add_mul_ediv id (acr W s)
 have m0:0≤id% acr W s:=Int.emod_nonneg _ (by omega)
 have m1:=Int.emod_lt_of_pos id (show 0<acr W s by omega)
 have q1:=Int.emod_add_mul_ediv x s
 have q2:=Int.emod_lt_of_pos x (show 0<s by omega)
 have q3:0≤x% s:=Int.emod_nonneg _ (by omega)
 have p1:=Int.emod_add_mul_ediv y s
 have p2:=Int.emod_lt_of_pos y (show 0<s by omega)
 have p3:0≤y% s:=Int.emod_nonneg _ (by omega)
 simp only
 constructor
 ·rintro⟨g1,g2,g3,g4⟩
  have ex:x/s=id% acr W s:=oT (by omega) g1 (by omega)
  have ey:y/s=id/acr W s:=oT (by omega) g3 (by omega)
  rw[ex,ey,Int.mul_comm]
  omega
 intro he
 have a1:=kL (W:=W) (s:=s) (by omega) i1 i2
 have a2:=Int.ediv_nonneg i1 (show 0≤s by omega)
 have hm:id% acr W s=x/s:=by
  rw[he,Int.add_comm,Int.add_mul_emod_self_right]
  exact Int.emod_eq_of_lt a2 a1
 have hd:id/acr W s=y/s:=by
  rw[he,Int.add_comm,Int.add_mul_ediv_right _ _ (by omega),Int.ediv_eq_zero_of_lt a2 a1]
  omega
 rw[hm,hd]
 rw[Int.mul_comm s]at q1 p1
 omega
theorem aJ9 {W H s x y:Int} (hr:aK W H s=true) (hi:inB W H x y=false) {id:Int} (h0:0≤id) (hid:id<cnt W H s):dE x y (bJ W H s id)=false:=by
 obtain⟨h1,h2,h3,h4,h5,h6⟩:=rightB_true.1 hr
 cases hh:dE x y (bJ W H s id)
 ·rfl
 have bb:=eM hr h0 hid
 unfold dE bJ at hh
 rw[hasB_true]at hh
 unfold aZ bA at hh
 simp only at hh
 have:inB W H x y=true:=inB_true.2 ⟨by omega,by omega,by omega,by omega,by omega,by omega,by omega,by omega⟩
 rw[this]at hi
 cases hi
theorem iF {W H s x y:Int} (hr:aK W H s=true) (hi:inB W H x y=true):0≤ofN W s x y∧ofN W s x y<cnt W H s:=by
 obtain⟨h1,h2,h3,h4,h5,h6⟩:=rightB_true.1 hr
 obtain⟨_,_,_,_,i1,i2,i3,i4⟩:=inB_true.1 hi
 have b1:=bU W s h5 h6 h1 h2
 have a1:=kL (W:=W) (s:=s) (by omega) i1 i2
 have a2:=Int.ediv_nonneg i1 (show 0≤s by omega)
 have c1:=kL (W:=H) (s:=s) (by omega) i3 i4
 have c2:=Int.ediv_nonneg i3 (show 0≤s by omega)
 unfold ofN cnt
 have m1:=Int.mul_nonneg c2 (show 0≤acr W s by omega)
 have m2:y/s*acr W s≤(acr H s-1)*acr W s:=Int.mul_le_mul_of_nonneg_right (by omega) (by omega)
 rw[Int.sub_mul,Int.mul_comm (acr H s)]at m2
 omega
theorem yS {W H s x y:Int} (hr:aK W H s=true) (hi:inB W H x y=true):fOf (bF W H s) x y=ofN W s x y:=by
 have hb:=iF hr hi
 obtain⟨k,hk⟩: ∃k:Nat,ofN W s x y=k:=⟨(ofN W s x y).toNat,by omega⟩
 have hl:=cQ hr
 have hlt:k<(bF W H s).length:=by omega
 rw[hk]
 refine uM hlt (fun j hj=> ?_) ?_
 ·rw[mF hr j (by omega)]
  cases hh:dE x y (bJ W H s j)
  ·rfl
  have:=(kB hr hi (by omega) (by omega)).1 hh
  omega
 rw[mF hr k hlt]
 exact(kB hr hi (by omega) (by omega)).2 hk.symm
theorem aIz {W H s id:Int} (hr:aK W H s=true) (h0:0≤id) (hid:id<cnt W H s):jL W H (aR W s id) (aO W s id) (aZ W s id) (bA W H s id)=true:=by
 have b:=eM hr h0 hid
 have z:=fJ hr h0 hid
 unfold jL
 unfold aZ bA at *
 simp only[Bool.and_eq_true,decide_eq_true_eq]
 omega
end Go.Proofs.YtaellcgglldjaaaGreat

