/- Part of a proof: PartB Field. -/
import Derived.Test.YtaellcgglldjaaaGreatHq02
import Derived.Deep.DeepCutAuto
import Derived.Test.YtaellcgglldjaaaGreatHq01
import Derived.DeepKeys
set_option linter.all false
set_option linter.unusedVariables false
set_option linter.unusedSimpArgs false
namespace Go.Proofs.YtaellcgglldjaaaGreat
open Go.RowKit
def bad (W H s id:Int):Bool:=decide (id<0)||decide (cnt W H s≤id)
theorem xY (W H s id:Int) (p:Nat) (w:World) (hr:aL W H s=true) (_hp:p<w.heap.size)
  (c0:w.cell? ⟨p,0,none⟩=some (.int .i64 W)) (c1:w.cell? ⟨p,1,none⟩=some (.int .i64 H)) (c2:w.cell? ⟨p,2,none⟩=some (.int .i64 s)):
  Calls Tryz.prog 114 #[.int .i64 id, .pointer (some ⟨p,0,none⟩)] w fun e w'=>e= .returned (.bool (bad W H s id))∧Ext w w':=by
 unfold bad
 by_cases h:id<0
 ·go_enter Tryz.func114,Tryz.ntmps114
  go_wp2_with (first|(go_at_call 37;refine(eM _ _ _ _ hr).mono ?_;rintro e w1 ⟨rfl,hb1⟩;obtain⟨hc1,hf1⟩:=hb1.cells;have hz1:=hb1.size;(repeat(first|rw[World.size_alloc]at hz1|rw[World.size_drew]at hz1))))
  go_ret
  exact⟨by simp[h],z_x⟩
 ·by_cases h':cnt W H s≤id
  ·go_enter Tryz.func114,Tryz.ntmps114
   go_wp2_with (first|(go_at_call 37;refine(eM _ _ _ _ hr).mono ?_;rintro e w1 ⟨rfl,hb1⟩;obtain⟨hc1,hf1⟩:=hb1.cells;have hz1:=hb1.size;(repeat(first|rw[World.size_alloc]at hz1|rw[World.size_drew]at hz1))))
   go_ret
   exact⟨by simp[h'],z_x⟩
  ·go_enter Tryz.func114,Tryz.ntmps114
   go_wp2_with (first|(go_at_call 37;refine(eM _ _ _ _ hr).mono ?_;rintro e w1 ⟨rfl,hb1⟩;obtain⟨hc1,hf1⟩:=hb1.cells;have hz1:=hb1.size;(repeat(first|rw[World.size_alloc]at hz1|rw[World.size_drew]at hz1))))
   go_ret
   exact⟨by simp;omega,z_x⟩
def mK (p:Int→Bool) (l:List Int):Int:=match l.findIdx? p with
 |some i=>i
 |none=> -1
theorem aBn {p:Int→Bool} {l:List Int} {k:Nat} (hk:k<l.length) (h: ∀j (hj:j<k),p (l[j]'(by omega))=false) (hp:p l[k]=true):mK p l=k:=by
 have:l.findIdx? p=some k:=by
  rw[List.findIdx?_eq_some_iff_getElem]
  exact⟨hk,hp,fun j hj=>by simpa using h j hj⟩
 simp[mK,this]
theorem uP {p:Int→Bool} {l:List Int} (h: ∀j (hj:j<l.length),p l[j]=false):mK p l= -1:=by
 have:l.findIdx? p=none:=by
  rw[List.findIdx?_eq_none_iff]
  intro x hx
  obtain⟨j,hj,rfl⟩:=List.getElem_of_mem hx
  exact h j hj
 simp[mK,this]
theorem aBo {p:Int→Bool} {l:List Int}:decide (0≤mK p l)=l.any p:=by
 unfold mK
 cases h:l.findIdx? p with
 |none=>
  rw[List.findIdx?_eq_none_iff]at h
  have:l.any p=false:=by rw[List.any_eq_false];intro x hx;simpa using h x hx
  simp[this]
 |some i=>
  rw[List.findIdx?_eq_some_iff_getElem]at h
  obtain⟨hi,hp,_⟩:=h
  have:l.any p=true:=by rw[List.any_eq_true];exact⟨_,List.getElem_mem hi,hp⟩
  simp[this]
def IntsAt (w:World) (b off:Nat) (l:List Int):Prop:= ∀k (h:k<l.length),w.cell? ⟨b,off+k,none⟩=some (.int .i64 l[k])
theorem IntsAt.ext {w w':World} {b off:Nat} {l:List Int} (h:IntsAt w b off l) (hb:b<w.heap.size) (he:Ext w w'):IntsAt w' b off l:=
 fun k hk=>(he.cell (p:=⟨b,off+k,none⟩) hb).trans (h k hk)
set_option maxHeartbeats 400000 in
theorem vY (W H s:Int) (p b off cap:Nat) (l:List Int) (w:World) (hr:aL W H s=true) (hp:p<w.heap.size) (hb:b<w.heap.size)
  (c0:w.cell? ⟨p,0,none⟩=some (.int .i64 W)) (c1:w.cell? ⟨p,1,none⟩=some (.int .i64 H)) (c2:w.cell? ⟨p,2,none⟩=some (.int .i64 s))
  (hl:l.length≤1000000) (hcells:IntsAt w b off l):
  Calls Tryz.prog 158 #[.slice (some ⟨b,off,none⟩) l.length cap, .func (.func 114) #[] #[.pointer (some ⟨p,0,none⟩)]] w fun e w'=>e= .returned (.int .i64 (mK (bad W H s) l))∧Ext w w':=by
 have HC:=aA hcells
 clear hcells
 go_enter Tryz.func158,Tryz.ntmps158
 go_wp2
 go_loopw [8] (fun i wr=> ∃k:Nat,k≤l.length∧i= .int .i64 k∧(∀j (hj:j<k) (hj':j<l.length),bad W H s l[j]=false)∧Ext w wr) (fun i _=>l.length-(intOf i).toNat)
 case atStart=>exact⟨0,Nat.zero_le _,rfl,fun j hj=>by omega,z_x⟩
 case round=>
  obtain⟨k,hk,rfl,hall,hext⟩:=hrel
  have HA:=aA hall
  clear hall
  have hz:=hext.size
  have d0:=(hext.cell (p:=⟨p,0,none⟩) hp).trans c0
  have d1:=(hext.cell (p:=⟨p,1,none⟩) hp).trans c1
  have d2:=(hext.cell (p:=⟨p,2,none⟩) hp).trans c2
  by_cases hlt:k<l.length
  ·have dk:=(HC.out.ext hb hext) k hlt
   cases hbad:bad W H s l[k]
   ·go_wp2_with (first|(go_at_call 114;refine(xY W H s _ p _ hr (by omega) d0 d1 d2).mono ?_;rintro e w1 ⟨rfl,hb1⟩;obtain⟨hc1,hf1⟩:=hb1.cells;have hz1:=hb1.size;(repeat(first|rw[World.size_alloc]at hz1|rw[World.size_drew]at hz1))))
    go_roundw
    case rel=>exact⟨k+1,by omega,by go_num,fun j hj hj'=>by
          by_cases e:j=k
          ·subst e;exact hbad
          ·exact HA.out j (by omega) hj',z_x⟩
    case measure=>simp[intOf];omega
   ·go_wp2_with (first|(go_at_call 114;refine(xY W H s _ p _ hr (by omega) d0 d1 d2).mono ?_;rintro e w1 ⟨rfl,hb1⟩;obtain⟨hc1,hf1⟩:=hb1.cells;have hz1:=hb1.size;(repeat(first|rw[World.size_alloc]at hz1|rw[World.size_drew]at hz1))))
    go_ret
    exact⟨by rw[aBn hlt (fun j hj=>HA.out j hj (by omega)) hbad];rfl,z_x⟩
  ·go_wp2
   go_ret
   exact⟨by rw[uP (fun j hj=>HA.out j (by omega) hj)];rfl,z_x⟩
theorem qW (W H s:Int) (p b off cap:Nat) (l:List Int) (w:World) (hr:aL W H s=true) (hp:p<w.heap.size) (hb:b<w.heap.size)
  (c0:w.cell? ⟨p,0,none⟩=some (.int .i64 W)) (c1:w.cell? ⟨p,1,none⟩=some (.int .i64 H)) (c2:w.cell? ⟨p,2,none⟩=some (.int .i64 s))
  (hl:l.length≤1000000) (hcells:IntsAt w b off l):
  Calls Tryz.prog 113 #[.slice (some ⟨b,off,none⟩) l.length cap, .func (.func 114) #[] #[.pointer (some ⟨p,0,none⟩)]] w fun e w'=>e= .returned (.bool (l.any (bad W H s)))∧Ext w w':=by
 have HC:=aA hcells
 clear hcells
 go_enter Tryz.func113,Tryz.ntmps113
 go_wp2_with (first|(go_at_call 158;refine(vY W H s p b off cap l _ hr hp hb c0 c1 c2 hl HC.out).mono ?_;rintro e w1 ⟨rfl,hb1⟩;obtain⟨hc1,hf1⟩:=hb1.cells;have hz1:=hb1.size;(repeat(first|rw[World.size_alloc]at hz1|rw[World.size_drew]at hz1))))
 go_ret
 exact⟨by rw[←aBo];rfl,z_x⟩
def iG (W H s:Int) (l:List Int):Int:=if aL W H s then(if l.any (bad W H s) then 10 else 0) else 1
theorem aBt (W H s:Int) (b off cap:Nat) (l:List Int) (w:World) (hb:b<w.heap.size) (hl:l.length≤1000000) (hcells:IntsAt w b off l):
  Calls Tryz.prog 64 #[.agg #[.int .i64 W, .int .i64 H, .int .i64 s], .slice (some ⟨b,off,none⟩) l.length cap] w fun e w'=>e= .returned (.int .i64 (iG W H s l))∧Ext w w':=by
 have HC:=aA hcells
 clear hcells
 cases hr:aL W H s
 ·go_enter Tryz.func64,Tryz.ntmps64
  go_wp2_with (first|(go_at_call 54;refine(gY _ _ _ _).mono ?_;rintro e w1 ⟨rfl,hb1⟩;obtain⟨hc1,hf1⟩:=hb1.cells;have hz1:=hb1.size;(repeat(first|rw[World.size_alloc]at hz1|rw[World.size_drew]at hz1));have z1_0:w.heap.size<w1.heap.size:=(by omega)))
  go_ret
  exact⟨by simp[iG,hr],z_x⟩
 ·cases ha:l.any (bad W H s)
  all_goals
   go_enter Tryz.func64,Tryz.ntmps64
   go_wp2_with (first
    |(go_at_call 54;refine(gY _ _ _ _).mono ?_;rintro e w1 ⟨rfl,hb1⟩;obtain⟨hc1,hf1⟩:=hb1.cells;have hz1:=hb1.size;(repeat(first|rw[World.size_alloc]at hz1|rw[World.size_drew]at hz1));have z1_0:w.heap.size<w1.heap.size:=(by omega))
    |(go_at_call 113;refine(qW W H s _ b off cap l _ hr (by omega) (by omega) (by simp[*]) (by simp[*]) (by simp[*]) hl (HC.out.ext hb (Ext.trans (Ext.alloc (Ext.refl _) _) (by assumption)))).mono ?_;rintro e w2 ⟨rfl,hb2⟩;obtain⟨hc2,hf2⟩:=hb2.cells;have hz2:=hb2.size;(repeat(first|rw[World.size_alloc]at hz2|rw[World.size_drew]at hz2))))
   go_ret
   exact⟨by simp[iG,hr,ha],z_x⟩
theorem yA (W H s:Int) (b off cap:Nat) (l:List Int) (w:World) (hr:aL W H s=true) (ha:l.any (bad W H s)=false) (hb:b<w.heap.size) (hl:l.length≤1000000) (hcells:IntsAt w b off l):
  Calls Tryz.prog 64 #[.agg #[.int .i64 W, .int .i64 H, .int .i64 s], .slice (some ⟨b,off,none⟩) l.length cap] w fun e w'=>e= .returned (.int .i64 0)∧Ext w w':=
 (aBt W H s b off cap l w hb hl hcells).mono fun e w' ⟨he,hx⟩=>⟨by rw[he];simp[iG,hr,ha],hx⟩
theorem lT {W H s id:Int} (h0:0≤id) (hid:id<cnt W H s):bad W H s id=false:=by simp[bad];omega
theorem bad_false_iff {W H s id:Int}:bad W H s id=false↔0≤id∧id<cnt W H s:=by simp[bad]
theorem yQ (w:World) (x:Int) (t:TypeId) (b:Nat) (hb:b=w.heap.size):IntsAt (w.alloc (.cells #[.int .i64 x] t)) b 0 [x]:=by
 subst hb
 intro k hk
 simp at hk;subst hk
 simp[go_sem]
theorem zY (w:World) (x y:Int) (t:TypeId) (b:Nat) (hb:b=w.heap.size):IntsAt (w.alloc (.cells #[.int .i64 x, .int .i64 y] t)) b 0 [x,y]:=by
 subst hb
 intro k hk
 simp at hk
 match k,hk with
 |0,_=>simp[go_sem]
 |1,_=>simp[go_sem]
theorem aDy:cX Tryz.prog 94 3 (.int .i64 0) 1 8:=⟨Tryz.underlying94,by kernel_rfl,rfl,by decide⟩
def Acc (w:World) (q:Nat) (l:List Int):Prop:= ∃v,w.heap[q]? =some (.cells #[v] 94 (0,0))∧Own intE w (q+1) 3 v l
theorem Acc.lt {w:World} {q:Nat} {l:List Int} (h:Acc w q l):q<w.heap.size:=lt_of_block h.choose_spec.1
theorem Acc.ext {w w':World} {q:Nat} {l:List Int} (h:Acc w q l) (he:Ext w w'):Acc w' q l:=by
 obtain⟨v,hq,ho⟩:=h
 exact⟨v,(he.block (lt_of_block hq)).trans hq,ho.ext he⟩
theorem aA7 (n:Int) (q:Nat) (l:List Int) (w:World) (h:Acc w q l) (hl:l.length≤1000000):
  Calls Tryz.prog 124 #[.bool true, .int .i64 n, .pointer (some ⟨q,0,none⟩)] w fun e w'=>e= .returned (.tuple #[])∧Below q w w'∧Acc w' q (l++[n]):=by
 obtain⟨v,hq,hown⟩:=h
 have hc:=cell_of_one hq
 have hlt:=lt_of_block hq
 have HO:=aA hown
 have HQ:=aA hq
 clear hown hq
 go_enter Tryz.func124,Tryz.ntmps124
 go_wp2_with (at_builtin;refine dU intE aDy rfl _ _ rfl (q+1) _ _ l rfl HO.out n _ _ rfl _ rfl rfl (by omega) (by omega) (by omega) ?_;intro g c w' hown' hbel;have hc':=(hbel.cell (p:=⟨q,0,none⟩) (by simp)).trans hc;have hq':=(hbel.block q (by omega)).trans HQ.out;have hf':=free_of_one hq';have HO':=aA hown';have HQ':=aA hq';clear hown' hq')
 go_end0
 refine⟨rfl,(Below.mono hbel (by omega)).setCell (by simp) _,_,one_setCell HQ'.out,HO'.out.setCell (by simp) _⟩
theorem aCd (n:Int) (q:Nat) (w:World):
  Calls Tryz.prog 124 #[.bool false, .int .i64 n, .pointer (some ⟨q,0,none⟩)] w fun e w'=>e= .returned (.tuple #[])∧w=w':=by
 go_enter Tryz.func124,Tryz.ntmps124
 go_wp2
 go_end0
 exact⟨rfl,rfl⟩
def opt (b:Bool) (n:Int):List Int:=if b then[n] else[]
theorem iZ (b:Bool) (n:Int):(opt b n).length≤1:=by cases b<;>simp[opt]
theorem jI (b:Bool) (n:Int) (q:Nat) (l:List Int) (w:World) (h:Acc w q l) (hl:l.length≤1000000):
  Calls Tryz.prog 124 #[.bool b, .int .i64 n, .pointer (some ⟨q,0,none⟩)] w fun e w'=>e= .returned (.tuple #[])∧Below q w w'∧Acc w' q (l++opt b n):=by
 cases b
 ·exact(aCd n q w).mono fun e w' ⟨he,hw⟩=>by subst hw;exact⟨he,Below.refl _ _,by simpa [opt] using h⟩
 ·exact(aA7 n q l w h hl).mono fun e w' ⟨he,hb,ha⟩=>⟨he,hb,by simpa [opt] using ha⟩
def aO (W H s id:Int):List Int:=
 opt (decide (acr W s≤id)) (id-acr W s)++opt (decide (id% acr W s<acr W s-1)) (id+1)++opt (decide (id+acr W s<cnt W H s)) (id+acr W s)++opt (decide (0<id% acr W s)) (id-1)
def aJg (w:World) (L:List Int) (err:Int) (e:Ending) (w':World):Prop:= ∃v,e= .returned (.tuple #[v, .int .i64 err])∧Ext w w'∧Own intE w' w.heap.size 3 v L
set_option maxHeartbeats 400000 in
theorem nI (W H s id:Int) (w:World) (hr:aL W H s=true) (h0:0≤id) (hid:id<cnt W H s):
  Calls Tryz.prog 72 #[.agg #[.int .i64 W, .int .i64 H, .int .i64 s], .int .i64 id] w (aJg w (aO W H s id) 0):=by
 obtain⟨h1,h2,h3,h4,h5,h6⟩:=rightB_true.1 hr
 have b0:=oV hr
 have b1:=bR W s h5 h6 h1 h2
 have hbad:=lT h0 hid
 have hany:[id].any (bad W H s)=false:=by simp[hbad]
 have b3:0≤id% acr W s∧id% acr W s≤65536:=⟨Int.emod_nonneg _ (by omega),Int.le_trans (aBm h0 (by omega)) (by omega)⟩
 have k2:id.tmod (acr W s)=id% acr W s:=qA h0 (by omega) (by omega)
 have hs0: ¬acr W s=0:=by omega
 clear hbad
 go_enter Tryz.func72,Tryz.ntmps72
 go_wp2_with (first
  |(go_at_call 64;refine(yA W H s _ 0 _ [id] _ hr hany (by simp) (by simp) (by exact yQ _ _ _ _ (by simp))).mono ?_;rintro e w1 ⟨rfl,hb1⟩;obtain⟨hc1,hf1⟩:=hb1.cells;have hz1:=hb1.size;(repeat(first|rw[World.size_alloc]at hz1|rw[World.size_drew]at hz1));have z1_0:w.heap.size<w1.heap.size:=(by omega))
  |(go_at_call 56;refine(kQ _ _ _ _ _ (by omega) (by omega) (by omega) (by omega)).mono ?_;rintro e w2 ⟨rfl,hb2⟩;obtain⟨hc2,hf2⟩:=hb2.cells;have hz2:=hb2.size;(repeat(first|rw[World.size_alloc]at hz2|rw[World.size_drew]at hz2));have z2_0:w.heap.size<w2.heap.size:=(by omega)))
 have A0:Acc (w2.alloc (.cells #[.slice none 0 0] 94)) w2.heap.size []:=⟨_,heap_alloc_new _ _,Own.nil _ _ _ _⟩
 refine(jI _ _ w2.heap.size [] _ A0 (by simp)).mono ?_
 rintro e w3 ⟨rfl,hb3,A3⟩
 have hc3:=gG hb3
 have hz3:=hb3.size
 simp only[World.size_alloc]at hz3
 have z3_0:w.heap.size<w3.heap.size:=by omega
 have l3:([]++opt (decide (acr W s≤id)) (id-acr W s)).length≤1:=by simpa using iZ _ _
 generalize hL3:[]++opt (decide (acr W s≤id)) (id-acr W s)=L3 at *
 have HL3:=aA hL3
 clear hL3 A0
 go_wp2_with fail
 refine(jI _ _ w2.heap.size L3 _ A3 (by omega)).mono ?_
 rintro e w4 ⟨rfl,hb4,A4⟩
 have hc4:=gG hb4
 have hz4:=hb4.size
 have z4_0:w.heap.size<w4.heap.size:=by omega
 have l4:(L3++opt (decide (id% acr W s<acr W s-1)) (id+1)).length≤2:=by have:=iZ (decide (id% acr W s<acr W s-1)) (id+1);simp;omega
 generalize hL4:L3++opt (decide (id% acr W s<acr W s-1)) (id+1)=L4 at *
 have HL4:=aA hL4
 clear hL4
 clear A3
 go_wp2_with (first|(go_at_call 37;refine(eM _ _ _ _ hr).mono ?_;rintro e w5 ⟨rfl,hb5⟩;obtain⟨hc5,hf5⟩:=hb5.cells;have hz5:=hb5.size;(repeat(first|rw[World.size_alloc]at hz5|rw[World.size_drew]at hz5));have z5_0:w.heap.size<w5.heap.size:=(by omega)))
 refine(jI _ _ w2.heap.size L4 _ (A4.ext hb5) (by omega)).mono ?_
 rintro e w6 ⟨rfl,hb6,A6⟩
 have hc6:=gG hb6
 have hz6:=hb6.size
 have z6_0:w.heap.size<w6.heap.size:=by omega
 have l6:(L4++opt (decide (id+acr W s<cnt W H s)) (id+acr W s)).length≤3:=by have:=iZ (decide (id+acr W s<cnt W H s)) (id+acr W s);simp;omega
 generalize hL6:L4++opt (decide (id+acr W s<cnt W H s)) (id+acr W s)=L6 at *
 have HL6:=aA hL6
 clear hL6 A4
 go_wp2_with fail
 refine(jI _ _ w2.heap.size L6 _ A6 (by omega)).mono ?_
 rintro e w7 ⟨rfl,hb7,A7⟩
 obtain⟨v,hq,ho⟩:=A7
 have hv:=cell_of_one hq
 have HQ:=aA hq
 have HO:=aA ho
 clear hq ho A6
 go_wp2_with fail
 go_ret2
 have hx:Ext w w2:=z_x
 have hy:Ext w w7:=(Ext.alloc hx (.cells #[.slice none 0 0] 94)).of_below (((hb3.trans hb4).trans (hb5.below.mono (by omega))).trans (hb6.trans hb7)) hx.size
 refine⟨v,rfl,hy,?_⟩
 have e:L6++opt (decide (0<id% acr W s)) (id-1)=aO W H s id:=by rw[←HL6.out,←HL4.out,←HL3.out];rfl
 rw[←e]
 exact HO.out.lower (by have:=hx.size;omega)
theorem Reads.ints {w:World} {b off cap:Nat} {n:Nat} {l:List Int} (h:Reads intE w (.slice (some ⟨b,off,none⟩) n cap) l):b<w.heap.size∧IntsAt w b off l:=by
 rcases h with⟨hv,_⟩|⟨b',off',cap',hv,hb,hc⟩
 ·simp at hv
 ·simp only[Value.slice.injEq,Option.some.injEq,Addr.mk.injEq]at hv
  obtain⟨⟨rfl,rfl,_⟩,_,_⟩:=hv
  refine⟨hb,fun k hk=> ?_⟩
  have:=hc k l[k] (List.getElem?_eq_getElem hk) 0 (.int .i64 l[k]) rfl
  simpa [intE] using this
set_option maxHeartbeats 400000 in
theorem aF9 (x:Int) (b off cap:Nat) (l:List Int) (w:World) (hb:b<w.heap.size) (hl:l.length≤1000000) (hcells:IntsAt w b off l):
  Calls Tryz.prog 187 #[.slice (some ⟨b,off,none⟩) l.length cap, .int .i64 x] w fun e w'=>e= .returned (.int .i64 (mK (x== ·) l))∧Ext w w':=by
 have HC:=aA hcells
 clear hcells
 go_enter Tryz.func187,Tryz.ntmps187
 go_wp2
 go_loopw [8] (fun i wr=> ∃k:Nat,k≤l.length∧i= .int .i64 k∧(∀j (hj:j<k) (hj':j<l.length),(x==l[j])=false)∧Ext w wr) (fun i _=>l.length-(intOf i).toNat)
 case atStart=>exact⟨0,Nat.zero_le _,rfl,fun j hj=>by omega,z_x⟩
 case round=>
  obtain⟨k,hk,rfl,hall,hext⟩:=hrel
  have HA:=aA hall
  clear hall
  have hz:=hext.size
  by_cases hlt:k<l.length
  ·have dk:=(HC.out.ext hb hext) k hlt
   cases hbad:(x==l[k])
   ·go_wp2
    go_roundw
    case rel=>exact⟨k+1,by omega,by go_num,fun j hj hj'=>by
          by_cases e:j=k
          ·subst e;exact hbad
          ·exact HA.out j (by omega) hj',z_x⟩
    case measure=>simp[intOf];omega
   ·go_wp2
    go_ret
    exact⟨by rw[aBn hlt (fun j hj=>HA.out j hj (by omega)) hbad];rfl,z_x⟩
  ·go_wp2
   go_ret
   exact⟨by rw[uP (fun j hj=>HA.out j (by omega) hj)];rfl,z_x⟩
theorem aF8 (x:Int) (w:World):
  Calls Tryz.prog 187 #[.slice none 0 0, .int .i64 x] w fun e w'=>e= .returned (.int .i64 (-1))∧Ext w w':=by
 go_enter Tryz.func187,Tryz.ntmps187
 go_wp2
 go_loopw [8] (fun i wr=>i= .int .i64 0∧Ext w wr) (fun i _=>0)
 case atStart=>exact⟨rfl,z_x⟩
 case round=>
  obtain⟨rfl,hext⟩:=hrel
  go_wp2
  go_ret
  exact⟨rfl,z_x⟩
theorem aF7 (x:Int) (v:Value) (l:List Int) (w:World) (hl:l.length≤1000000) (hr:Reads intE w v l):
  Calls Tryz.prog 187 #[v, .int .i64 x] w fun e w'=>e= .returned (.int .i64 (mK (x== ·) l))∧Ext w w':=by
 rcases hr with⟨rfl,rfl⟩|⟨b,off,cap,rfl,hb,hc⟩
 ·exact aF8 x w
 ·exact aF9 x b off cap l w hb hl (Reads.ints (.inr ⟨b,off,cap,rfl,hb,hc⟩)).2
def eV (l:List Int) (x:Int):Bool:=l.contains x
theorem xG (x:Int) (v:Value) (l:List Int) (w:World) (hl:l.length≤1000000) (hr:Reads intE w v l):
  Calls Tryz.prog 170 #[v, .int .i64 x] w fun e w'=>e= .returned (.bool (eV l x))∧Ext w w':=by
 have HR:=aA hr
 clear hr
 go_enter Tryz.func170,Tryz.ntmps170
 go_wp2_with (first|(go_at_call 187;refine(aF7 x v l _ hl HR.out).mono ?_;rintro e w1 ⟨rfl,hb1⟩;obtain⟨hc1,hf1⟩:=hb1.cells;have hz1:=hb1.size;(repeat(first|rw[World.size_alloc]at hz1|rw[World.size_drew]at hz1))))
 go_ret
 have h0: ∀l:List Int,l.contains x=l.any (x== ·):=by
  intro l
  induction l with
  |nil=>rfl
  |cons a l ih=>rw[List.any_cons,←ih];rfl
 have e:decide (0≤mK (x== ·) l)=eV l x:=by unfold eV;rw[aBo,h0]
 exact⟨by rw[←e];rfl,z_x⟩
abbrev aB:=Int×Int
theorem aIz:Tryz.prog.underlying 28=some (.struct (Tryz.prog.fieldsOf 28)):=by kernel_rfl
theorem aDk:Tryz.prog.stoodInHeld 28=false:=by kernel_rfl
theorem jX (d:Nat) (a b c e:Int) (w:World):(Op.equalIn (d+3) 28 (.agg #[.int .i64 a, .int .i64 b]) (.agg #[.int .i64 c, .int .i64 e])).run Tryz.prog w= .ok (a==c&&b==e) w:=by
 rw[run_equalIn_struct w (d+2) 28 _ _ aIz aDk]
 cases h:a==c<;>cases h':b==e<;>simp[go_sem,h,h']
def eL (p q:aB):Bool:=p.1==q.1&&p.2==q.2
theorem aX (p q:aB):eL p q=decide (p=q):=by
 rw[Bool.eq_iff_iff];simp[eL,Prod.ext_iff]
theorem bJ (p q:aB) (w:World):(Op.equalIn 10000 28 (.agg #[.int .i64 p.1, .int .i64 p.2]) (.agg #[.int .i64 q.1, .int .i64 q.2])).run Tryz.prog w= .ok (eL p q) w:=jX 9997 _ _ _ _ w
def cellE:Enc aB:=⟨2,fun c=>[.int .i64 c.1, .int .i64 c.2],fun _=>rfl,fun _ u hu=>by simp at hu;rcases hu with rfl|rfl<;>rfl⟩
def bV:Enc (aB×aB):=⟨4,fun p=>[.int .i64 p.1.1, .int .i64 p.1.2, .int .i64 p.2.1, .int .i64 p.2.2],fun _=>rfl,fun _ u hu=>by simp at hu;rcases hu with rfl|rfl|rfl|rfl<;>rfl⟩
theorem aBb:cX Tryz.prog 190 225 (.agg #[.int .i64 0, .int .i64 0, .int .i64 0, .int .i64 0]) 4 32:=⟨Tryz.underlying190,by kernel_rfl,rfl,by decide⟩
def wM (w:World) (L:List (aB×aB)) (err:Int) (e:Ending) (w':World):Prop:= ∃v,e= .returned (.tuple #[v, .int .i64 err])∧Ext w w'∧Own bV w' w.heap.size 225 v L
def iO (X2 Y1:Int) (n:Nat):List (aB×aB):=(List.range n).map fun i:Nat=>((X2-1,Y1+(i:Int)),(X2,Y1+(i:Int)))
def lK (X1 Y2:Int) (n:Nat):List (aB×aB):=(List.range n).map fun i:Nat=>((X1+(i:Int),Y2-1),(X1+(i:Int),Y2))
def bB (W s id:Int):Int:=min s (W-aU W s id)
def bA (W H s id:Int):Int:=min s (H-aP W s id)
def aT (W H s a b:Int):List (aB×aB):=
 if aP W s a=aP W s b then iO (aU W s b) (aP W s a) (bA W H s a).toNat else lK (aU W s a) (aP W s b) (bB W s a).toNat
theorem jK (W H s id:Int):(aO W H s id).length≤4:=by
 have h1:=iZ (decide (acr W s≤id)) (id-acr W s)
 have h2:=iZ (decide (id% acr W s<acr W s-1)) (id+1)
 have h3:=iZ (decide (id+acr W s<cnt W H s)) (id+acr W s)
 have h4:=iZ (decide (0<id% acr W s)) (id-1)
 simp only[aO,List.length_append];omega
theorem aBc {n s:Int} (hs:1≤s) (_hn:1≤n):(acr n s-1)*s<n:=by
 unfold acr
 have h:=Int.ediv_mul_le (n+s-1) (show s≠0 by omega)
 rw[Int.sub_mul];omega
theorem iD {W H s id:Int} (hr:aL W H s=true) (h0:0≤id) (hid:id<cnt W H s):
  0≤aU W s id∧aU W s id<W∧0≤aP W s id∧aP W s id<H:=by
 obtain⟨h1,h2,h3,h4,h5,h6⟩:=rightB_true.1 hr
 have b1:=bR W s h5 h6 h1 h2
 have a1:=aBc (n:=W) (s:=s) (by omega) h1
 have a2:=aBc (n:=H) (s:=s) (by omega) h3
 have c1:0≤id% acr W s∧id% acr W s≤acr W s-1:=⟨Int.emod_nonneg _ (by omega),by have:=Int.emod_lt_of_pos id (show 0<acr W s by omega);omega⟩
 have c2:id/acr W s≤acr H s-1:=by
  have:id/acr W s<acr H s:=Int.ediv_lt_of_lt_mul (by omega) (by unfold cnt at hid;rw[Int.mul_comm]at hid;exact hid)
  omega
 have c3:0≤id/acr W s:=Int.ediv_nonneg h0 (by omega)
 have m1:=Int.mul_le_mul_of_nonneg_right c1.2 (show 0≤s by omega)
 have m2:=Int.mul_le_mul_of_nonneg_right c2 (show 0≤s by omega)
 have n1:=Int.mul_nonneg c1.1 (show 0≤s by omega)
 have n2:=Int.mul_nonneg c3 (show 0≤s by omega)
 unfold aU aP
 exact⟨n1,by omega,n2,by omega⟩
theorem jU {W H s id:Int} (hr:aL W H s=true) (h0:0≤id) (hid:id<cnt W H s):
  1≤bB W s id∧bB W s id≤16∧1≤bA W H s id∧bA W H s id≤16:=by
 obtain⟨h1,h2,h3,h4,h5,h6⟩:=rightB_true.1 hr
 have:=iD hr h0 hid
 unfold bB bA
 omega
theorem aDi (X Y:Int) (n:Nat):iO X Y (n+1)=iO X Y n++[((X-1,Y+(n:Int)),(X,Y+(n:Int)))]:=by
 simp[iO,List.range_succ]
theorem aFg (X Y:Int) (n:Nat):lK X Y (n+1)=lK X Y n++[((X+(n:Int),Y-1),(X+(n:Int),Y))]:=by
 simp[lK,List.range_succ]
theorem gZ (X Y:Int) (n:Nat):(iO X Y n).length=n:=by simp[iO]
theorem iX (X Y:Int) (n:Nat):(lK X Y n).length=n:=by simp[lK]
def PairsAt (w:World) (b off:Nat) (l:List (aB×aB)):Prop:= ∀k (h:k<l.length),w.cell? ⟨b,off+k*4,none⟩=some (.int .i64 l[k].1.1)∧w.cell? ⟨b,off+k*4+1,none⟩=some (.int .i64 l[k].1.2)∧w.cell? ⟨b,off+k*4+2,none⟩=some (.int .i64 l[k].2.1)∧w.cell? ⟨b,off+k*4+3,none⟩=some (.int .i64 l[k].2.2)
theorem PairsAt.ext {w w':World} {b off:Nat} {l:List (aB×aB)} (h:PairsAt w b off l) (hb:b<w.heap.size) (he:Ext w w'):PairsAt w' b off l:=
 fun k hk=>⟨(he.cell (p:=⟨b,_,none⟩) hb).trans (h k hk).1,(he.cell (p:=⟨b,_,none⟩) hb).trans (h k hk).2.1,(he.cell (p:=⟨b,_,none⟩) hb).trans (h k hk).2.2.1,(he.cell (p:=⟨b,_,none⟩) hb).trans (h k hk).2.2.2⟩
theorem Reads.pairs {w:World} {b off cap:Nat} {n:Nat} {l:List (aB×aB)} (h:Reads bV w (.slice (some ⟨b,off,none⟩) n cap) l):b<w.heap.size∧PairsAt w b off l:=by
 rcases h with⟨hv,_⟩|⟨b',off',cap',hv,hb,hc⟩
 ·simp at hv
 ·simp only[Value.slice.injEq,Option.some.injEq,Addr.mk.injEq]at hv
  obtain⟨⟨rfl,rfl,_⟩,_,_⟩:=hv
  refine⟨hb,fun k hk=> ?_⟩
  have h0:=hc k l[k] (List.getElem?_eq_getElem hk)
  exact⟨h0 0 _ rfl,h0 1 _ rfl,h0 2 _ rfl,h0 3 _ rfl⟩
theorem aKu (W H s id:Int) (w:World) (hr:(iG W H s [id] !=0)=true):
  Calls Tryz.prog 27 #[.agg #[.int .i64 W, .int .i64 H, .int .i64 s], .int .i64 id] w fun e w'=>e= .returned (.tuple #[.agg #[.int .i64 0, .int .i64 0, .int .i64 0, .int .i64 0], .int .i64 (iG W H s [id])])∧Ext w w':=by
 go_enter Tryz.func27,Tryz.ntmps27
 go_wp2_with (first
  |(go_at_call 64;refine(aBt W H s _ 0 _ [id] _ (by simp) (by simp) (by exact yQ _ _ _ _ (by simp))).mono ?_;rintro e w1 ⟨rfl,hb1⟩;obtain⟨hc1,hf1⟩:=hb1.cells;have hz1:=hb1.size;(repeat(first|rw[World.size_alloc]at hz1|rw[World.size_drew]at hz1));have z1_0:w.heap.size<w1.heap.size:=(by omega);have z1_1:w.heap.size+1<w1.heap.size:=(by omega)))
 exact bodyPost_ret (v:= .tuple #[.agg #[.int .i64 0, .int .i64 0, .int .i64 0, .int .i64 0], .int .i64 (iG W H s [id])]) (by simp[results,Tryz.results27,go_sem, *]) rfl ⟨rfl,z_x⟩
theorem pO (W H s id:Int) (w:World) (hr:aL W H s=true) (h0:0≤id) (hid:id<cnt W H s):
  Calls Tryz.prog 27 #[.agg #[.int .i64 W, .int .i64 H, .int .i64 s], .int .i64 id] w fun e w'=>
   e= .returned (.tuple #[.agg #[.int .i64 (aU W s id), .int .i64 (aP W s id), .int .i64 (min s (W-aU W s id)), .int .i64 (min s (H-aP W s id))], .int .i64 0])∧Ext w w':=by
 have hbad:=lT h0 hid
 have hany:[id].any (bad W H s)=false:=by simp[hbad]
 generalize hB:min s (W-aU W s id)=B at *
 generalize hC:min s (H-aP W s id)=C at *
 have HB:=aA hB
 have HC:=aA hC
 clear hB hC
 go_enter Tryz.func27,Tryz.ntmps27
 go_wp2_with (first
  |(go_at_call 64;refine(yA W H s _ 0 _ [id] _ hr hany (by simp) (by simp) (by exact yQ _ _ _ _ (by simp))).mono ?_;rintro e w1 ⟨rfl,hb1⟩;obtain⟨hc1,hf1⟩:=hb1.cells;have hz1:=hb1.size;(repeat(first|rw[World.size_alloc]at hz1|rw[World.size_drew]at hz1));have z1_0:w.heap.size<w1.heap.size:=(by omega);have z1_1:w.heap.size+1<w1.heap.size:=(by omega))
  |(go_at_call 65;refine(aBh W H s id _ hr h0 hid).mono ?_;rintro e w2 ⟨rfl,hb2⟩;obtain⟨hc2,hf2⟩:=hb2.cells;have hz2:=hb2.size;(repeat(first|rw[World.size_alloc]at hz2|rw[World.size_drew]at hz2));have z2_0:w.heap.size<w2.heap.size:=(by omega);have z2_1:w.heap.size+1<w2.heap.size:=(by omega)))
 rw[HB.out,HC.out]
 exact bodyPost_ret (v:= .tuple #[.agg #[.int .i64 (aU W s id), .int .i64 (aP W s id), .int .i64 B, .int .i64 C], .int .i64 0]) (by simp[results,Tryz.results27,go_sem, *]) rfl ⟨rfl,z_x⟩
end Go.Proofs.YtaellcgglldjaaaGreat

namespace Go.Proofs.YtaellcgglldjaaaGreat
open Go.RowKit
def Row16 (w:World) (a:Option Addr) (l:List Int):Prop:=0<l.length→ ∃b off,a=some ⟨b,off,none⟩∧b<w.heap.size∧ ∀k (h:k<l.length),w.cell? ⟨b,off+k,none⟩=some (.int .u16 l[k])
theorem Row16.ext {w w':World} {a:Option Addr} {l:List Int} (h:Row16 w a l) (e:Ext w w'):Row16 w' a l:=fun h0=>by
 obtain⟨b,off,ha,hb,hc⟩:=h h0
 exact⟨b,off,ha,Nat.lt_of_lt_of_le hb e.size,fun k hk=>(e.cell (p:=⟨b,off+k,none⟩) hb).trans (hc k hk)⟩
def cS (l:List Int):Prop:= ∀x∈l,0≤x∧x≤65535
def aS (W H:Int) (n:Nat):Int:=if bM W H=true then(if(n:Int)=W*H then 0 else 12) else 10
theorem checkE_ok {W H:Int} {n:Nat}:aS W H n=0↔bM W H=true∧(n:Int)=W*H:=by
 unfold aS
 split
 ·split<;>simp[*]
 ·simp[*]
theorem cA (W H:Int) (a:Option Addr) (n c:Nat) (w:World):
  Calls Tryz.prog 34 #[.agg #[.int .i64 W, .int .i64 H, .slice a n c]] w fun e w'=>e= .returned (.int .i64 (aS W H n))∧Ext w w':=by
 cases hm:bM W H
 ·have e0:aS W H n=10:=by simp[aS,hm]
  rw[e0];clear e0
  go_enter Tryz.func34,Tryz.ntmps34
  go_wp2_with (go_at_call 76;refine(gU _ _ _).mono ?_;rintro e w1 ⟨rfl,hb1⟩;obtain⟨hc1,hf1⟩:=hb1.cells;have hz1:=hb1.size;(repeat(first|rw[World.size_alloc]at hz1|rw[World.size_drew]at hz1));have z1_0:w.heap.size<w1.heap.size:=(by omega))
  go_ret
  exact⟨rfl,z_x⟩
 ·obtain⟨h1,h2,h3,h4⟩:=mayB_true.1 hm
  have hb:=cP (a:=W) (b:=H) (A:=256) (B:=256) (by omega) h2 (by omega) h4
  have k1:IntKind.i64.wrap (W*H)=W*H:=IntWalk.i64_in _ (by omega)
  by_cases hl:(n:Int)=W*H
  ·have e0:aS W H n=0:=by simp[aS,hm,hl]
   rw[e0];clear e0
   have hl':((n:Int) !=W*H)=false:=by simpa using hl
   clear hl
   go_enter Tryz.func34,Tryz.ntmps34
   go_wp2_with (go_at_call 76;refine(gU _ _ _).mono ?_;rintro e w1 ⟨rfl,hb1⟩;obtain⟨hc1,hf1⟩:=hb1.cells;have hz1:=hb1.size;(repeat(first|rw[World.size_alloc]at hz1|rw[World.size_drew]at hz1));have z1_0:w.heap.size<w1.heap.size:=(by omega))
   go_ret
   exact⟨rfl,z_x⟩
  ·have e0:aS W H n=12:=by simp[aS,hm,hl]
   rw[e0];clear e0
   have hl':((n:Int) !=W*H)=true:=by simpa using hl
   clear hl
   go_enter Tryz.func34,Tryz.ntmps34
   go_wp2_with (go_at_call 76;refine(gU _ _ _).mono ?_;rintro e w1 ⟨rfl,hb1⟩;obtain⟨hc1,hf1⟩:=hb1.cells;have hz1:=hb1.size;(repeat(first|rw[World.size_alloc]at hz1|rw[World.size_drew]at hz1));have z1_0:w.heap.size<w1.heap.size:=(by omega))
   go_ret
   exact⟨rfl,z_x⟩
theorem oB (W H:Int) (w:World):Calls Tryz.prog 127 #[.agg #[.int .i64 W, .int .i64 H]] w fun e w'=>e= .returned (.bool (bM W H))∧Ext w w':=by
 go_enter Tryz.func127,Tryz.ntmps127
 go_wp2
 all_goals go_ret
 all_goals exact⟨by first|(simp[bM,eQ, *];done)|(simp[bM,eQ];omega)|(simp[bM,eQ, *];omega),z_x⟩
theorem yX (W H:Int) (a:Option Addr) (n c:Nat) (w:World):
  Calls Tryz.prog 74 #[.agg #[.int .i64 W, .int .i64 H, .slice a n c]] w fun e w'=>e= .returned (.int .i64 (aS W H n))∧Ext w w':=by
 cases hm:bM W H
 ·have e0:aS W H n=10:=by simp[aS,hm]
  rw[e0];clear e0
  go_enter Tryz.func74,Tryz.ntmps74
  go_wp2_with (go_at_call 127;refine(oB _ _ _).mono ?_;rintro e w1 ⟨rfl,hb1⟩;obtain⟨hc1,hf1⟩:=hb1.cells;have hz1:=hb1.size;(repeat(first|rw[World.size_alloc]at hz1|rw[World.size_drew]at hz1));have z1_0:w.heap.size<w1.heap.size:=(by omega))
  go_ret
  exact⟨rfl,z_x⟩
 ·obtain⟨h1,h2,h3,h4⟩:=mayB_true.1 hm
  have hb:=cP (a:=W) (b:=H) (A:=256) (B:=256) (by omega) h2 (by omega) h4
  have k1:IntKind.i64.wrap (W*H)=W*H:=IntWalk.i64_in _ (by omega)
  by_cases hl:(n:Int)=W*H
  ·have e0:aS W H n=0:=by simp[aS,hm,hl]
   rw[e0];clear e0
   have hl':((n:Int) !=W*H)=false:=by simpa using hl
   clear hl
   go_enter Tryz.func74,Tryz.ntmps74
   go_wp2_with (go_at_call 127;refine(oB _ _ _).mono ?_;rintro e w1 ⟨rfl,hb1⟩;obtain⟨hc1,hf1⟩:=hb1.cells;have hz1:=hb1.size;(repeat(first|rw[World.size_alloc]at hz1|rw[World.size_drew]at hz1));have z1_0:w.heap.size<w1.heap.size:=(by omega))
   go_ret
   exact⟨rfl,z_x⟩
  ·have e0:aS W H n=12:=by simp[aS,hm,hl]
   rw[e0];clear e0
   have hl':((n:Int) !=W*H)=true:=by simpa using hl
   clear hl
   go_enter Tryz.func74,Tryz.ntmps74
   go_wp2_with (go_at_call 127;refine(oB _ _ _).mono ?_;rintro e w1 ⟨rfl,hb1⟩;obtain⟨hc1,hf1⟩:=hb1.cells;have hz1:=hb1.size;(repeat(first|rw[World.size_alloc]at hz1|rw[World.size_drew]at hz1));have z1_0:w.heap.size<w1.heap.size:=(by omega))
   go_ret
   exact⟨rfl,z_x⟩
theorem iH {W H x y:Int} (h1:0≤x) (h2:x<W) (h3:0≤y) (h4:y<H):0≤y*W∧0≤y*W+x∧y*W+x<W*H:=by
 have a:=Int.mul_nonneg h3 (show 0≤W by omega)
 have b:y*W≤(H-1)*W:=Int.mul_le_mul_of_nonneg_right (by omega) (by omega)
 rw[Int.sub_mul,Int.mul_comm H]at b
 omega
def aH (l:List Int) (W:Int) (p:aB):Int:=l.getD (p.2*W+p.1).toNat 0
theorem bI {l:List Int} (h:cS l) (W:Int) (p:aB):0≤aH l W p∧aH l W p≤65535:=by
 unfold aH
 rw[List.getD_eq_getElem?_getD]
 cases hh:l[(p.2*W+p.1).toNat]? with
 |none=>simp
 |some x=>exact h x (List.mem_of_getElem? hh)
theorem fO {w:World} {a:Option Addr} {l:List Int} (h:Row16 w a l) {W H x y:Int} (hl:(l.length:Int)=W*H) (h1:0≤x) (h2:x<W) (h3:0≤y) (h4:y<H):
  ∃b off,a=some ⟨b,off,none⟩∧b<w.heap.size∧w.cell? ⟨b,off+(y*W+x).toNat,none⟩=some (.int .u16 (aH l W (x,y))):=by
 have hb:=iH h1 h2 h3 h4
 have hk:(y*W+x).toNat<l.length:=by omega
 obtain⟨b,off,ha,hlt,hc⟩:=h (by omega)
 refine⟨b,off,ha,hlt,?_⟩
 rw[hc _ hk]
 unfold aH
 simp[List.getD_eq_getElem?_getD,hk]
theorem aFy (W H:Int) (a:Option Addr) (l:List Int) (c:Nat) (x y:Int) (w:World) (hm:bM W H=true) (hl:(l.length:Int)=W*H) (hr:Row16 w a l) (hu:cS l) (h1:0≤x) (h2:x<W) (h3:0≤y) (h4:y<H):
  Calls Tryz.prog 20 #[.agg #[.int .i64 W, .int .i64 H, .slice a l.length c], .agg #[.int .i64 x, .int .i64 y]] w fun e w'=>e= .returned (.int .u64 (aH l W (x,y)))∧Ext w w':=by
 obtain⟨m1,m2,m3,m4⟩:=mayB_true.1 hm
 obtain⟨b,off,rfl,hb,hc⟩:=fO hr hl h1 h2 h3 h4
 have cb:=bI hu W (x,y)
 have ib:=iH h1 h2 h3 h4
 have ib2:y*W+x<(l.length:Int):=by omega
 have wb:=cP (a:=W) (b:=H) (A:=256) (B:=256) (by omega) m2 (by omega) m4
 have k1:IntKind.i64.wrap (y*W)=y*W:=IntWalk.i64_in _ (by omega)
 have k2:IntKind.i64.wrap (y*W+x)=y*W+x:=IntWalk.i64_in _ (by omega)
 generalize aH l W (x,y)=v at *
 obtain⟨n,hn⟩: ∃n,l.length=n:=⟨_,rfl⟩
 rw[hn]at ib2⊢
 clear hr hl hn hu
 go_enter Tryz.func20,Tryz.ntmps20
 go_wp2
 go_ret
 exact⟨rfl,z_x⟩
theorem pT (a b c d:Int) (w:World):(Op.equalIn 10000 23 (.agg #[.int .i64 a, .int .i64 b]) (.agg #[.int .i64 c, .int .i64 d])).run Tryz.prog w= .ok (a==c&&b==d) w:=by
 have u:Tryz.prog.underlying 23=some (.struct (Tryz.prog.fieldsOf 23)):=by kernel_rfl
 have s:Tryz.prog.stoodInHeld 23=false:=by kernel_rfl
 rw[run_equalIn_struct w 9999 23 _ _ u s]
 cases h:a==c<;>cases h':b==d<;>simp[go_sem,h,h']
end Go.Proofs.YtaellcgglldjaaaGreat

