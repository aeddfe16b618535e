/- Part of a proof: PartB Field. -/
import Derived.Test.YtaellcgglldjaaaGreatHierFindsQ02
import Derived.Deep.DeepCutAuto
import Derived.Test.YtaellcgglldjaaaGreatHierFindsQ01
import Derived.DeepKeys
set_option linter.all false
set_option linter.unusedVariables false
set_option linter.unusedSimpArgs false
namespace Go.Proofs.YtaellcgglldjaaaGreat
open Go.RowKit
def bad (W H s id:Int):Bool:=decide (id<0)||decide (cnt W H s≤id)
theorem zA (W H s id:Int) (p:Nat) (w:World) (hr:aK W H s=true) (_hp:p<w.heap.size)
  (c0:w.cell? ⟨p,0,none⟩=some (.int .i64 W)) (c1:w.cell? ⟨p,1,none⟩=some (.int .i64 H)) (c2:w.cell? ⟨p,2,none⟩=some (.int .i64 s)):
  Calls Tryz.prog 114 #[.int .i64 id, .pointer (some ⟨p,0,none⟩)] w fun e w'=>e= .returned (.bool (bad W H s id))∧Ext w w':=by
 unfold bad
 by_cases h:id<0
 ·go_enter Tryz.func114,Tryz.ntmps114
  go_wp2_with (first|(go_at_call 37;refine(fB _ _ _ _ hr).mono ?_;rintro e w1 ⟨rfl,hb1⟩;obtain⟨hc1,hf1⟩:=hb1.cells;have hz1:=hb1.size;(try simp only[zS]at hz1)))
  go_ret
  exact⟨by simp[h],z_x⟩
 by_cases h':cnt W H s≤id
 ·go_enter Tryz.func114,Tryz.ntmps114
  go_wp2_with (first|(go_at_call 37;refine(fB _ _ _ _ hr).mono ?_;rintro e w1 ⟨rfl,hb1⟩;obtain⟨hc1,hf1⟩:=hb1.cells;have hz1:=hb1.size;(try simp only[zS]at hz1)))
  go_ret
  exact⟨by simp[h'],z_x⟩
 go_enter Tryz.func114,Tryz.ntmps114
 go_wp2_with (first|(go_at_call 37;refine(fB _ _ _ _ hr).mono ?_;rintro e w1 ⟨rfl,hb1⟩;obtain⟨hc1,hf1⟩:=hb1.cells;have hz1:=hb1.size;(try simp only[zS]at hz1)))
 go_ret
 exact⟨by simp;omega,z_x⟩
def nQ (p:Int→Bool) (l:List Int):Int:=match l.findIdx? p with
 |some i=>i
 |none=> -1
theorem aCs {p:Int→Bool} {l:List Int} {k:Nat} (hk:k<l.length) (h: ∀j (hj:j<k),p (l[j]'(by omega))=false) (hp:p l[k]=true):nQ p l=k:=by
 have:l.findIdx? p=some k:=by
  rw[List.findIdx?_eq_some_iff_getElem]
  exact⟨hk,hp,fun j hj=>by simpa using h j hj⟩
 simp[nQ,this]
theorem vR {p:Int→Bool} {l:List Int} (h: ∀j (hj:j<l.length),p l[j]=false):nQ p l= -1:=by
 have:l.findIdx? p=none:=by
  rw[List.findIdx?_eq_none_iff]
  intro x hx
  obtain⟨j,hj,rfl⟩:=List.getElem_of_mem hx
  exact h j hj
 simp[nQ,this]
theorem aCt {p:Int→Bool} {l:List Int}:decide (0≤nQ p l)=l.any p:=by
 unfold nQ
 cases h:l.findIdx? p with
 |none=>
  rw[List.findIdx?_eq_none_iff]at h
  have:l.any p=false:=by rw[List.any_eq_false];intro x hx;simpa using h x hx
  simp[this]
 |some i=>
  rw[List.findIdx?_eq_some_iff_getElem]at h
  obtain⟨hi,hp,_⟩:=h
  have:l.any p=true:=by rw[List.any_eq_true];exact⟨_,List.getElem_mem hi,hp⟩
  simp[this]
def IntsAt (w:World) (b off:Nat) (l:List Int):Prop:= ∀k (h:k<l.length),w.cell? ⟨b,off+k,none⟩=some (.int .i64 l[k])
theorem IntsAt.ext {w w':World} {b off:Nat} {l:List Int} (h:IntsAt w b off l) (hb:b<w.heap.size) (he:Ext w w'):IntsAt w' b off l:=
 fun k hk=>(he.cell (p:=⟨b,off+k,none⟩) hb).trans (h k hk)
set_option maxHeartbeats 400000 in
theorem xH (W H s:Int) (p b off cap:Nat) (l:List Int) (w:World) (hr:aK W H s=true) (hp:p<w.heap.size) (hb:b<w.heap.size)
  (c0:w.cell? ⟨p,0,none⟩=some (.int .i64 W)) (c1:w.cell? ⟨p,1,none⟩=some (.int .i64 H)) (c2:w.cell? ⟨p,2,none⟩=some (.int .i64 s))
  (hl:l.length≤1000000) (hcells:IntsAt w b off l):
  Calls Tryz.prog 158 #[.slice (some ⟨b,off,none⟩) l.length cap, .func (.func 114) #[] #[.pointer (some ⟨p,0,none⟩)]] w fun e w'=>e= .returned (.int .i64 (nQ (bad W H s) l))∧Ext w w':=by
 have HC:=aA hcells
 clear hcells
 go_enter Tryz.func158,Tryz.ntmps158
 go_wp2
 go_loopw [8] (fun i wr=> ∃k:Nat,k≤l.length∧i= .int .i64 k∧(∀j (hj:j<k) (hj':j<l.length),bad W H s l[j]=false)∧Ext w wr) (fun i _=>l.length-(intOf i).toNat)
 case atStart=>exact⟨0,Nat.zero_le _,rfl,fun j hj=>by omega,z_x⟩
 obtain⟨k,hk,rfl,hall,hext⟩:=hrel
 have HA:=aA hall
 clear hall
 have hz:=hext.size
 have d0:=(hext.cell (p:=⟨p,0,none⟩) hp).trans c0
 have d1:=(hext.cell (p:=⟨p,1,none⟩) hp).trans c1
 have d2:=(hext.cell (p:=⟨p,2,none⟩) hp).trans c2
 by_cases hlt:k<l.length
 ·have dk:=(HC.out.ext hb hext) k hlt
  cases hbad:bad W H s l[k]
  ·go_wp2_with (first|(go_at_call 114;refine(zA W H s _ p _ hr (by omega) d0 d1 d2).mono ?_;rintro e w1 ⟨rfl,hb1⟩;obtain⟨hc1,hf1⟩:=hb1.cells;have hz1:=hb1.size;(try simp only[zS]at hz1)))
   go_roundw
   case rel=>exact⟨k+1,by omega,by go_num,fun j hj hj'=>by
         by_cases e:j=k
         ·subst e;exact hbad
         exact HA.out j (by omega) hj',z_x⟩
   simp[intOf];omega
  go_wp2_with (first|(go_at_call 114;refine(zA W H s _ p _ hr (by omega) d0 d1 d2).mono ?_;rintro e w1 ⟨rfl,hb1⟩;obtain⟨hc1,hf1⟩:=hb1.cells;have hz1:=hb1.size;(try simp only[zS]at hz1)))
  go_ret
  exact⟨by rw[aCs hlt (fun j hj=>HA.out j hj (by omega)) hbad];rfl,z_x⟩
 go_wp2
 go_ret
 exact⟨by rw[vR (fun j hj=>HA.out j (by omega) hj)];rfl,z_x⟩
theorem sD (W H s:Int) (p b off cap:Nat) (l:List Int) (w:World) (hr:aK W H s=true) (hp:p<w.heap.size) (hb:b<w.heap.size)
  (c0:w.cell? ⟨p,0,none⟩=some (.int .i64 W)) (c1:w.cell? ⟨p,1,none⟩=some (.int .i64 H)) (c2:w.cell? ⟨p,2,none⟩=some (.int .i64 s))
  (hl:l.length≤1000000) (hcells:IntsAt w b off l):
  Calls Tryz.prog 113 #[.slice (some ⟨b,off,none⟩) l.length cap, .func (.func 114) #[] #[.pointer (some ⟨p,0,none⟩)]] w fun e w'=>e= .returned (.bool (l.any (bad W H s)))∧Ext w w':=by
 have HC:=aA hcells
 clear hcells
 go_enter Tryz.func113,Tryz.ntmps113
 go_wp2_with (first|(go_at_call 158;refine(xH W H s p b off cap l _ hr hp hb c0 c1 c2 hl HC.out).mono ?_;rintro e w1 ⟨rfl,hb1⟩;obtain⟨hc1,hf1⟩:=hb1.cells;have hz1:=hb1.size;(try simp only[zS]at hz1)))
 go_ret
 exact⟨by rw[←aCt];rfl,z_x⟩
def jN (W H s:Int) (l:List Int):Int:=if aK W H s then(if l.any (bad W H s) then 10 else 0) else 1
theorem aCz (W H s:Int) (b off cap:Nat) (l:List Int) (w:World) (hb:b<w.heap.size) (hl:l.length≤1000000) (hcells:IntsAt w b off l):
  Calls Tryz.prog 64 #[.agg #[.int .i64 W, .int .i64 H, .int .i64 s], .slice (some ⟨b,off,none⟩) l.length cap] w fun e w'=>e= .returned (.int .i64 (jN W H s l))∧Ext w w':=by
 have HC:=aA hcells
 clear hcells
 cases hr:aK W H s
 ·go_enter Tryz.func64,Tryz.ntmps64
  go_wp2_with (first|(go_at_call 54;refine(jA _ _ _ _).mono ?_;rintro e w1 ⟨rfl,hb1⟩;obtain⟨hc1,hf1⟩:=hb1.cells;have hz1:=hb1.size;(try simp only[zS]at hz1);have z1_0:w.heap.size<w1.heap.size:=(by omega)))
  go_ret
  exact⟨by simp[jN,hr],z_x⟩
 cases ha:l.any (bad W H s)
 all_goals
  go_enter Tryz.func64,Tryz.ntmps64
  go_wp2_with (first
   |(go_at_call 54;refine(jA _ _ _ _).mono ?_;rintro e w1 ⟨rfl,hb1⟩;obtain⟨hc1,hf1⟩:=hb1.cells;have hz1:=hb1.size;(try simp only[zS]at hz1);have z1_0:w.heap.size<w1.heap.size:=(by omega))
   |(go_at_call 113;refine(sD W H s _ b off cap l _ hr (by omega) (by omega) (by simp[*]) (by simp[*]) (by simp[*]) hl (HC.out.ext hb (Ext.trans (Ext.alloc (Ext.refl _) _) (by assumption)))).mono ?_;rintro e w2 ⟨rfl,hb2⟩;obtain⟨hc2,hf2⟩:=hb2.cells;have hz2:=hb2.size;(try simp only[zS]at hz2)))
  go_ret
  exact⟨by simp[jN,hr,ha],z_x⟩
theorem zD (W H s:Int) (b off cap:Nat) (l:List Int) (w:World) (hr:aK W H s=true) (ha:l.any (bad W H s)=false) (hb:b<w.heap.size) (hl:l.length≤1000000) (hcells:IntsAt w b off l):
  Calls Tryz.prog 64 #[.agg #[.int .i64 W, .int .i64 H, .int .i64 s], .slice (some ⟨b,off,none⟩) l.length cap] w fun e w'=>e= .returned (.int .i64 0)∧Ext w w':=
 (aCz W H s b off cap l w hb hl hcells).mono fun e w' ⟨he,hx⟩=>⟨by rw[he];simp[jN,hr,ha],hx⟩
theorem mU {W H s id:Int} (h0:0≤id) (hid:id<cnt W H s):bad W H s id=false:=by simp[bad];omega
theorem bad_false_iff {W H s id:Int}:bad W H s id=false↔0≤id∧id<cnt W H s:=by simp[bad]
theorem zU (w:World) (x:Int) (t:TypeId) (b:Nat) (hb:b=w.heap.size):IntsAt (w.alloc (.cells #[.int .i64 x] t)) b 0 [x]:=by
 subst hb
 intro k hk
 simp at hk;subst hk
 simp[go_sem]
theorem aAv (w:World) (x y:Int) (t:TypeId) (b:Nat) (hb:b=w.heap.size):IntsAt (w.alloc (.cells #[.int .i64 x, .int .i64 y] t)) b 0 [x,y]:=by
 subst hb
 intro k hk
 simp at hk
 match k,hk with
 |0,_=>simp[go_sem]
 |1,_=>simp[go_sem]
theorem aFa:cH Tryz.prog 94 3 (.int .i64 0) 1 8:=⟨Tryz.underlying94,by kernel_rfl,rfl,by decide⟩
def Acc (w:World) (q:Nat) (l:List Int):Prop:= ∃v,w.heap[q]? =some (.cells #[v] 94 (0,0))∧Own intE w (q+1) 3 v l
theorem Acc.lt {w:World} {q:Nat} {l:List Int} (h:Acc w q l):q<w.heap.size:=lt_of_block h.choose_spec.1
theorem Acc.ext {w w':World} {q:Nat} {l:List Int} (h:Acc w q l) (he:Ext w w'):Acc w' q l:=by
 obtain⟨v,hq,ho⟩:=h
 exact⟨v,(he.block (lt_of_block hq)).trans hq,ho.ext he⟩
theorem aB5 (n:Int) (q:Nat) (l:List Int) (w:World) (h:Acc w q l) (hl:l.length≤1000000):
  Calls Tryz.prog 124 #[.bool true, .int .i64 n, .pointer (some ⟨q,0,none⟩)] w fun e w'=>e= .returned (.tuple #[])∧Below q w w'∧Acc w' q (l++[n]):=by
 obtain⟨v,hq,hown⟩:=h
 have hc:=cell_of_one hq
 have hlt:=lt_of_block hq
 have HO:=aA hown
 have HQ:=aA hq
 clear hown hq
 go_enter Tryz.func124,Tryz.ntmps124
 go_wp2_with (at_builtin;refine dA intE aFa rfl _ _ rfl (q+1) _ _ l rfl HO.out n _ _ rfl _ rfl rfl (by omega) (by omega) (by omega) ?_;intro g c w' hown' hbel;have hc':=(hbel.cell (p:=⟨q,0,none⟩) (by simp)).trans hc;have hq':=(hbel.block q (by omega)).trans HQ.out;have hf':=free_of_one hq';have HO':=aA hown';have HQ':=aA hq';clear hown' hq')
 go_end0
 refine⟨rfl,(Below.mono hbel (by omega)).setCell (by simp) _,_,one_setCell HQ'.out,HO'.out.setCell (by simp) _⟩
theorem aDl (n:Int) (q:Nat) (w:World):
  Calls Tryz.prog 124 #[.bool false, .int .i64 n, .pointer (some ⟨q,0,none⟩)] w fun e w'=>e= .returned (.tuple #[])∧w=w':=by
 go_enter Tryz.func124,Tryz.ntmps124
 go_wp2
 go_end0
 exact⟨rfl,rfl⟩
def opt (b:Bool) (n:Int):List Int:=if b then[n] else[]
theorem kH (b:Bool) (n:Int):(opt b n).length≤1:=by cases b<;>simp[opt]
theorem kN (b:Bool) (n:Int) (q:Nat) (l:List Int) (w:World) (h:Acc w q l) (hl:l.length≤1000000):
  Calls Tryz.prog 124 #[.bool b, .int .i64 n, .pointer (some ⟨q,0,none⟩)] w fun e w'=>e= .returned (.tuple #[])∧Below q w w'∧Acc w' q (l++opt b n):=by
 cases b
 ·exact(aDl n q w).mono fun e w' ⟨he,hw⟩=>by subst hw;exact⟨he,Below.refl _ _,by simpa [opt] using h⟩
 exact(aB5 n q l w h hl).mono fun e w' ⟨he,hb,ha⟩=>⟨he,hb,by simpa [opt] using ha⟩
def aQ (W H s id:Int):List Int:=
 opt (decide (acr W s≤id)) (id-acr W s)++opt (decide (id% acr W s<acr W s-1)) (id+1)++opt (decide (id+acr W s<cnt W H s)) (id+acr W s)++opt (decide (0<id% acr W s)) (id-1)
def aKt (w:World) (L:List Int) (err:Int) (e:Ending) (w':World):Prop:= ∃v,e= .returned (.tuple #[v, .int .i64 err])∧Ext w w'∧Own intE w' w.heap.size 3 v L
set_option maxHeartbeats 400000 in
theorem oM (W H s id:Int) (w:World) (hr:aK W H s=true) (h0:0≤id) (hid:id<cnt W H s):
  Calls Tryz.prog 72 #[.agg #[.int .i64 W, .int .i64 H, .int .i64 s], .int .i64 id] w (aKt w (aQ W H s id) 0):=by
 obtain⟨h1,h2,h3,h4,h5,h6⟩:=rightB_true.1 hr
 have b0:=mI hr
 have b1:=bU W s h5 h6 h1 h2
 have hbad:=mU h0 hid
 have hany:[id].any (bad W H s)=false:=by simp[hbad]
 have b3:0≤id% acr W s∧id% acr W s≤65536:=⟨Int.emod_nonneg _ (by omega),Int.le_trans (aCp h0 (by omega)) (by omega)⟩
 have k2:id.tmod (acr W s)=id% acr W s:=uZ h0 (by omega) (by omega)
 have hs0: ¬acr W s=0:=by omega
 clear hbad
 go_enter Tryz.func72,Tryz.ntmps72
 go_wp2_with (first
  |(go_at_call 64;refine(zD W H s _ 0 _ [id] _ hr hany (by simp) (by simp) (by exact zU _ _ _ _ (by simp))).mono ?_;rintro e w1 ⟨rfl,hb1⟩;obtain⟨hc1,hf1⟩:=hb1.cells;have hz1:=hb1.size;(try simp only[zS]at hz1);have z1_0:w.heap.size<w1.heap.size:=(by omega))
  |(go_at_call 56;refine(lS _ _ _ _ _ (by omega) (by omega) (by omega) (by omega)).mono ?_;rintro e w2 ⟨rfl,hb2⟩;obtain⟨hc2,hf2⟩:=hb2.cells;have hz2:=hb2.size;(try simp only[zS]at hz2);have z2_0:w.heap.size<w2.heap.size:=(by omega)))
 have A0:Acc (w2.alloc (.cells #[.slice none 0 0] 94)) w2.heap.size []:=⟨_,heap_alloc_new _ _,Own.nil _ _ _ _⟩
 refine(kN _ _ w2.heap.size [] _ A0 (by simp)).mono ?_
 rintro e w3 ⟨rfl,hb3,A3⟩
 have hc3:=iC hb3
 have hz3:=hb3.size
 simp only[World.size_alloc]at hz3
 have z3_0:w.heap.size<w3.heap.size:=by omega
 have l3:([]++opt (decide (acr W s≤id)) (id-acr W s)).length≤1:=by simpa using kH _ _
 generalize hL3:[]++opt (decide (acr W s≤id)) (id-acr W s)=L3 at *
 have HL3:=aA hL3
 clear hL3 A0
 go_wp2_with fail
 refine(kN _ _ w2.heap.size L3 _ A3 (by omega)).mono ?_
 rintro e w4 ⟨rfl,hb4,A4⟩
 have hc4:=iC hb4
 have hz4:=hb4.size
 have z4_0:w.heap.size<w4.heap.size:=by omega
 have l4:(L3++opt (decide (id% acr W s<acr W s-1)) (id+1)).length≤2:=by have:=kH (decide (id% acr W s<acr W s-1)) (id+1);simp;omega
 generalize hL4:L3++opt (decide (id% acr W s<acr W s-1)) (id+1)=L4 at *
 have HL4:=aA hL4
 clear hL4
 clear A3
 go_wp2_with (first|(go_at_call 37;refine(fB _ _ _ _ hr).mono ?_;rintro e w5 ⟨rfl,hb5⟩;obtain⟨hc5,hf5⟩:=hb5.cells;have hz5:=hb5.size;(try simp only[zS]at hz5);have z5_0:w.heap.size<w5.heap.size:=(by omega)))
 refine(kN _ _ w2.heap.size L4 _ (A4.ext hb5) (by omega)).mono ?_
 rintro e w6 ⟨rfl,hb6,A6⟩
 have hc6:=iC hb6
 have hz6:=hb6.size
 have z6_0:w.heap.size<w6.heap.size:=by omega
 have l6:(L4++opt (decide (id+acr W s<cnt W H s)) (id+acr W s)).length≤3:=by have:=kH (decide (id+acr W s<cnt W H s)) (id+acr W s);simp;omega
 generalize hL6:L4++opt (decide (id+acr W s<cnt W H s)) (id+acr W s)=L6 at *
 have HL6:=aA hL6
 clear hL6 A4
 go_wp2_with fail
 refine(kN _ _ w2.heap.size L6 _ A6 (by omega)).mono ?_
 rintro e w7 ⟨rfl,hb7,A7⟩
 obtain⟨v,hq,ho⟩:=A7
 have hv:=cell_of_one hq
 have HQ:=aA hq
 have HO:=aA ho
 clear hq ho A6
 go_wp2_with fail
 go_ret2
 have hx:Ext w w2:=z_x
 have hy:Ext w w7:=(Ext.alloc hx (.cells #[.slice none 0 0] 94)).of_below (((hb3.trans hb4).trans (hb5.below.mono (by omega))).trans (hb6.trans hb7)) hx.size
 refine⟨v,rfl,hy,?_⟩
 have e:L6++opt (decide (0<id% acr W s)) (id-1)=aQ W H s id:=by rw[←HL6.out,←HL4.out,←HL3.out];rfl
 rw[←e]
 exact HO.out.lower (by have:=hx.size;omega)
theorem Reads.ints {w:World} {b off cap:Nat} {n:Nat} {l:List Int} (h:Reads intE w (.slice (some ⟨b,off,none⟩) n cap) l):b<w.heap.size∧IntsAt w b off l:=by
 rcases h with⟨hv,_⟩|⟨b',off',cap',hv,hb,hc⟩
 ·simp at hv
 simp only[Value.slice.injEq,Option.some.injEq,Addr.mk.injEq]at hv
 obtain⟨⟨rfl,rfl,_⟩,_,_⟩:=hv
 refine⟨hb,fun k hk=> ?_⟩
 have:=hc k l[k] (zG hk) 0 (.int .i64 l[k]) rfl
 simpa [intE] using this
set_option maxHeartbeats 400000 in
theorem aGp (x:Int) (b off cap:Nat) (l:List Int) (w:World) (hb:b<w.heap.size) (hl:l.length≤1000000) (hcells:IntsAt w b off l):
  Calls Tryz.prog 187 #[.slice (some ⟨b,off,none⟩) l.length cap, .int .i64 x] w fun e w'=>e= .returned (.int .i64 (nQ (x== ·) l))∧Ext w w':=by
 have HC:=aA hcells
 clear hcells
 go_enter Tryz.func187,Tryz.ntmps187
 go_wp2
 go_loopw [8] (fun i wr=> ∃k:Nat,k≤l.length∧i= .int .i64 k∧(∀j (hj:j<k) (hj':j<l.length),(x==l[j])=false)∧Ext w wr) (fun i _=>l.length-(intOf i).toNat)
 case atStart=>exact⟨0,Nat.zero_le _,rfl,fun j hj=>by omega,z_x⟩
 obtain⟨k,hk,rfl,hall,hext⟩:=hrel
 have HA:=aA hall
 clear hall
 have hz:=hext.size
 by_cases hlt:k<l.length
 ·have dk:=(HC.out.ext hb hext) k hlt
  cases hbad:(x==l[k])
  ·go_wp2
   go_roundw
   case rel=>exact⟨k+1,by omega,by go_num,fun j hj hj'=>by
         by_cases e:j=k
         ·subst e;exact hbad
         exact HA.out j (by omega) hj',z_x⟩
   simp[intOf];omega
  go_wp2
  go_ret
  exact⟨by rw[aCs hlt (fun j hj=>HA.out j hj (by omega)) hbad];rfl,z_x⟩
 go_wp2
 go_ret
 exact⟨by rw[vR (fun j hj=>HA.out j (by omega) hj)];rfl,z_x⟩
theorem aGo (x:Int) (w:World):
  Calls Tryz.prog 187 #[.slice none 0 0, .int .i64 x] w fun e w'=>e= .returned (.int .i64 (-1))∧Ext w w':=by
 go_enter Tryz.func187,Tryz.ntmps187
 go_wp2
 go_loopw [8] (fun i wr=>i= .int .i64 0∧Ext w wr) (fun i _=>0)
 case atStart=>exact⟨rfl,z_x⟩
 obtain⟨rfl,hext⟩:=hrel
 go_wp2
 go_ret
 exact⟨rfl,z_x⟩
theorem aGn (x:Int) (v:Value) (l:List Int) (w:World) (hl:l.length≤1000000) (hr:Reads intE w v l):
  Calls Tryz.prog 187 #[v, .int .i64 x] w fun e w'=>e= .returned (.int .i64 (nQ (x== ·) l))∧Ext w w':=by
 rcases hr with⟨rfl,rfl⟩|⟨b,off,cap,rfl,hb,hc⟩
 ·exact aGo x w
 exact aGp x b off cap l w hb hl (Reads.ints (.inr ⟨b,off,cap,rfl,hb,hc⟩)).2
def eP (l:List Int) (x:Int):Bool:=l.contains x
theorem yK (x:Int) (v:Value) (l:List Int) (w:World) (hl:l.length≤1000000) (hr:Reads intE w v l):
  Calls Tryz.prog 170 #[v, .int .i64 x] w fun e w'=>e= .returned (.bool (eP l x))∧Ext w w':=by
 have HR:=aA hr
 clear hr
 go_enter Tryz.func170,Tryz.ntmps170
 go_wp2_with (first|(go_at_call 187;refine(aGn x v l _ hl HR.out).mono ?_;rintro e w1 ⟨rfl,hb1⟩;obtain⟨hc1,hf1⟩:=hb1.cells;have hz1:=hb1.size;(try simp only[zS]at hz1)))
 go_ret
 have h0: ∀l:List Int,l.contains x=l.any (x== ·):=by
  intro l
  induction l with
  |nil=>rfl
  |cons a l ih=>rw[List.any_cons,←ih];rfl
 have e:decide (0≤nQ (x== ·) l)=eP l x:=by unfold eP;rw[aCt,h0]
 exact⟨by rw[←e];rfl,z_x⟩
abbrev aB:=Int×Int
theorem aKe:Tryz.prog.underlying 28=some (.struct (Tryz.prog.fieldsOf 28)):=by kernel_rfl
theorem aEx:Tryz.prog.stoodInHeld 28=false:=by kernel_rfl
theorem kW (d:Nat) (a b c e:Int) (w:World):(Op.equalIn (d+3) 28 (.agg #[.int .i64 a, .int .i64 b]) (.agg #[.int .i64 c, .int .i64 e])).run Tryz.prog w= .ok (a==c&&b==e) w:=by
 rw[run_equalIn_struct w (d+2) 28 _ _ aKe aEx]
 cases h:a==c<;>cases h':b==e<;>simp[go_sem,h,h']
def cK (p q:aB):Bool:=p.1==q.1&&p.2==q.2
theorem bB (p q:aB):cK p q=decide (p=q):=by
 rw[Bool.eq_iff_iff];simp[cK,Prod.ext_iff]
theorem bC (p q:aB) (w:World):(Op.equalIn 10000 28 (.agg #[.int .i64 p.1, .int .i64 p.2]) (.agg #[.int .i64 q.1, .int .i64 q.2])).run Tryz.prog w= .ok (cK p q) w:=kW 9997 _ _ _ _ w
def cellE:Enc aB:=⟨2,fun c=>[.int .i64 c.1, .int .i64 c.2],fun _=>rfl,fun _ u hu=>by simp at hu;rcases hu with rfl|rfl<;>rfl⟩
def aT:Enc (aB×aB):=⟨4,fun p=>[.int .i64 p.1.1, .int .i64 p.1.2, .int .i64 p.2.1, .int .i64 p.2.2],fun _=>rfl,fun _ u hu=>by simp at hu;rcases hu with rfl|rfl|rfl|rfl<;>rfl⟩
theorem uL:cH Tryz.prog 190 225 (.agg #[.int .i64 0, .int .i64 0, .int .i64 0, .int .i64 0]) 4 32:=⟨Tryz.underlying190,by kernel_rfl,rfl,by decide⟩
def xV (w:World) (L:List (aB×aB)) (err:Int) (e:Ending) (w':World):Prop:= ∃v,e= .returned (.tuple #[v, .int .i64 err])∧Ext w w'∧Own aT w' w.heap.size 225 v L
def iJ (X2 Y1:Int) (n:Nat):List (aB×aB):=(List.range n).map fun i:Nat=>((X2-1,Y1+(i:Int)),(X2,Y1+(i:Int)))
def lK (X1 Y2:Int) (n:Nat):List (aB×aB):=(List.range n).map fun i:Nat=>((X1+(i:Int),Y2-1),(X1+(i:Int),Y2))
def aZ (W s id:Int):Int:=min s (W-aR W s id)
def bA (W H s id:Int):Int:=min s (H-aO W s id)
def bI (W H s a b:Int):List (aB×aB):=
 if aO W s a=aO W s b then iJ (aR W s b) (aO W s a) (bA W H s a).toNat else lK (aR W s a) (aO W s b) (aZ W s a).toNat
theorem kO (W H s id:Int):(aQ W H s id).length≤4:=by
 have h1:=kH (decide (acr W s≤id)) (id-acr W s)
 have h2:=kH (decide (id% acr W s<acr W s-1)) (id+1)
 have h3:=kH (decide (id+acr W s<cnt W H s)) (id+acr W s)
 have h4:=kH (decide (0<id% acr W s)) (id-1)
 simp only[aQ,List.length_append];omega
theorem aCe {n s:Int} (hs:1≤s) (_hn:1≤n):(acr n s-1)*s<n:=by
 unfold acr
 have h:=Int.ediv_mul_le (n+s-1) (show s≠0 by omega)
 rw[Int.sub_mul];omega
theorem eM {W H s id:Int} (hr:aK W H s=true) (h0:0≤id) (hid:id<cnt W H s):
  0≤aR W s id∧aR W s id<W∧0≤aO W s id∧aO W s id<H:=by
 obtain⟨h1,h2,h3,h4,h5,h6⟩:=rightB_true.1 hr
 have b1:=bU W s h5 h6 h1 h2
 have a1:=aCe (n:=W) (s:=s) (by omega) h1
 have a2:=aCe (n:=H) (s:=s) (by omega) h3
 have c1:0≤id% acr W s∧id% acr W s≤acr W s-1:=⟨Int.emod_nonneg _ (by omega),by have:=Int.emod_lt_of_pos id (show 0<acr W s by omega);omega⟩
 have c2:id/acr W s≤acr H s-1:=by
  have:id/acr W s<acr H s:=Int.ediv_lt_of_lt_mul (by omega) (by unfold cnt at hid;rw[Int.mul_comm]at hid;exact hid)
  omega
 have c3:0≤id/acr W s:=Int.ediv_nonneg h0 (by omega)
 have m1:=Int.mul_le_mul_of_nonneg_right c1.2 (show 0≤s by omega)
 have m2:=Int.mul_le_mul_of_nonneg_right c2 (show 0≤s by omega)
 have n1:=Int.mul_nonneg c1.1 (show 0≤s by omega)
 have n2:=Int.mul_nonneg c3 (show 0≤s by omega)
 unfold aR aO
 exact⟨n1,by omega,n2,by omega⟩
theorem fJ {W H s id:Int} (hr:aK W H s=true) (h0:0≤id) (hid:id<cnt W H s):
  1≤aZ W s id∧aZ W s id≤16∧1≤bA W H s id∧bA W H s id≤16:=by
 obtain⟨h1,h2,h3,h4,h5,h6⟩:=rightB_true.1 hr
 have:=eM hr h0 hid
 unfold aZ bA
 omega
theorem aEw (X Y:Int) (n:Nat):iJ X Y (n+1)=iJ X Y n++[((X-1,Y+(n:Int)),(X,Y+(n:Int)))]:=by
 simp[iJ,List.range_succ]
theorem aGy (X Y:Int) (n:Nat):lK X Y (n+1)=lK X Y n++[((X+(n:Int),Y-1),(X+(n:Int),Y))]:=by
 simp[lK,List.range_succ]
theorem jB (X Y:Int) (n:Nat):(iJ X Y n).length=n:=by simp[iJ]
theorem kE (X Y:Int) (n:Nat):(lK X Y n).length=n:=by simp[lK]
def PairsAt (w:World) (b off:Nat) (l:List (aB×aB)):Prop:= ∀k (h:k<l.length),w.cell? ⟨b,off+k*4,none⟩=some (.int .i64 l[k].1.1)∧w.cell? ⟨b,off+k*4+1,none⟩=some (.int .i64 l[k].1.2)∧w.cell? ⟨b,off+k*4+2,none⟩=some (.int .i64 l[k].2.1)∧w.cell? ⟨b,off+k*4+3,none⟩=some (.int .i64 l[k].2.2)
theorem PairsAt.ext {w w':World} {b off:Nat} {l:List (aB×aB)} (h:PairsAt w b off l) (hb:b<w.heap.size) (he:Ext w w'):PairsAt w' b off l:=
 fun k hk=>⟨(he.cell (p:=⟨b,_,none⟩) hb).trans (h k hk).1,(he.cell (p:=⟨b,_,none⟩) hb).trans (h k hk).2.1,(he.cell (p:=⟨b,_,none⟩) hb).trans (h k hk).2.2.1,(he.cell (p:=⟨b,_,none⟩) hb).trans (h k hk).2.2.2⟩
theorem Reads.pairs {w:World} {b off cap:Nat} {n:Nat} {l:List (aB×aB)} (h:Reads aT w (.slice (some ⟨b,off,none⟩) n cap) l):b<w.heap.size∧PairsAt w b off l:=by
 rcases h with⟨hv,_⟩|⟨b',off',cap',hv,hb,hc⟩
 ·simp at hv
 simp only[Value.slice.injEq,Option.some.injEq,Addr.mk.injEq]at hv
 obtain⟨⟨rfl,rfl,_⟩,_,_⟩:=hv
 refine⟨hb,fun k hk=> ?_⟩
 have h0:=hc k l[k] (zG hk)
 exact⟨h0 0 _ rfl,h0 1 _ rfl,h0 2 _ rfl,h0 3 _ rfl⟩
theorem aM0 (W H s id:Int) (w:World) (hr:(jN W H s [id] !=0)=true):
  Calls Tryz.prog 27 #[.agg #[.int .i64 W, .int .i64 H, .int .i64 s], .int .i64 id] w fun e w'=>e= .returned (.tuple #[.agg #[.int .i64 0, .int .i64 0, .int .i64 0, .int .i64 0], .int .i64 (jN W H s [id])])∧Ext w w':=by
 go_enter Tryz.func27,Tryz.ntmps27
 go_wp2_with (first
  |(go_at_call 64;refine(aCz W H s _ 0 _ [id] _ (by simp) (by simp) (by exact zU _ _ _ _ (by simp))).mono ?_;rintro e w1 ⟨rfl,hb1⟩;obtain⟨hc1,hf1⟩:=hb1.cells;have hz1:=hb1.size;(try simp only[zS]at hz1);have z1_0:w.heap.size<w1.heap.size:=(by omega);have z1_1:w.heap.size+1<w1.heap.size:=(by omega)))
 exact bodyPost_ret (v:= .tuple #[.agg #[.int .i64 0, .int .i64 0, .int .i64 0, .int .i64 0], .int .i64 (jN W H s [id])]) (by simp[results,Tryz.results27,go_sem, *]) rfl ⟨rfl,z_x⟩
theorem uJ (W H s id:Int) (w:World) (hr:aK W H s=true) (h0:0≤id) (hid:id<cnt W H s):
  Calls Tryz.prog 27 #[.agg #[.int .i64 W, .int .i64 H, .int .i64 s], .int .i64 id] w fun e w'=>
   e= .returned (.tuple #[.agg #[.int .i64 (aR W s id), .int .i64 (aO W s id), .int .i64 (min s (W-aR W s id)), .int .i64 (min s (H-aO W s id))], .int .i64 0])∧Ext w w':=by
 have hbad:=mU h0 hid
 have hany:[id].any (bad W H s)=false:=by simp[hbad]
 generalize hB:min s (W-aR W s id)=B at *
 generalize hC:min s (H-aO W s id)=C at *
 have HB:=aA hB
 have HC:=aA hC
 clear hB hC
 go_enter Tryz.func27,Tryz.ntmps27
 go_wp2_with (first
  |(go_at_call 64;refine(zD W H s _ 0 _ [id] _ hr hany (by simp) (by simp) (by exact zU _ _ _ _ (by simp))).mono ?_;rintro e w1 ⟨rfl,hb1⟩;obtain⟨hc1,hf1⟩:=hb1.cells;have hz1:=hb1.size;(try simp only[zS]at hz1);have z1_0:w.heap.size<w1.heap.size:=(by omega);have z1_1:w.heap.size+1<w1.heap.size:=(by omega))
  |(go_at_call 65;refine(aCj W H s id _ hr h0 hid).mono ?_;rintro e w2 ⟨rfl,hb2⟩;obtain⟨hc2,hf2⟩:=hb2.cells;have hz2:=hb2.size;(try simp only[zS]at hz2);have z2_0:w.heap.size<w2.heap.size:=(by omega);have z2_1:w.heap.size+1<w2.heap.size:=(by omega)))
 rw[HB.out,HC.out]
 exact bodyPost_ret (v:= .tuple #[.agg #[.int .i64 (aR W s id), .int .i64 (aO W s id), .int .i64 B, .int .i64 C], .int .i64 0]) (by simp[results,Tryz.results27,go_sem, *]) rfl ⟨rfl,z_x⟩
end Go.Proofs.YtaellcgglldjaaaGreat

namespace Go.Proofs.YtaellcgglldjaaaGreat
open Go.RowKit
def Row16 (w:World) (a:Option Addr) (l:List Int):Prop:=0<l.length→ ∃b off,a=some ⟨b,off,none⟩∧b<w.heap.size∧ ∀k (h:k<l.length),w.cell? ⟨b,off+k,none⟩=some (.int .u16 l[k])
theorem Row16.ext {w w':World} {a:Option Addr} {l:List Int} (h:Row16 w a l) (e:Ext w w'):Row16 w' a l:=fun h0=>by
 obtain⟨b,off,ha,hb,hc⟩:=h h0
 exact⟨b,off,ha,Nat.lt_of_lt_of_le hb e.size,fun k hk=>(e.cell (p:=⟨b,off+k,none⟩) hb).trans (hc k hk)⟩
def cV (l:List Int):Prop:= ∀x∈l,0≤x∧x≤65535
def aX (W H:Int) (n:Nat):Int:=if bW W H=true then(if(n:Int)=W*H then 0 else 12) else 10
theorem checkE_ok {W H:Int} {n:Nat}:aX W H n=0↔bW W H=true∧(n:Int)=W*H:=by
 unfold aX
 split
 ·split<;>simp[*]
 simp[*]
theorem cX (W H:Int) (a:Option Addr) (n c:Nat) (w:World):
  Calls Tryz.prog 34 #[.agg #[.int .i64 W, .int .i64 H, .slice a n c]] w fun e w'=>e= .returned (.int .i64 (aX W H n))∧Ext w w':=by
 cases hm:bW W H
 ·have e0:aX W H n=10:=by simp[aX,hm]
  rw[e0];clear e0
  go_enter Tryz.func34,Tryz.ntmps34
  go_wp2_with (go_at_call 76;refine(iX _ _ _).mono ?_;rintro e w1 ⟨rfl,hb1⟩;obtain⟨hc1,hf1⟩:=hb1.cells;have hz1:=hb1.size;(try simp only[zS]at hz1);have z1_0:w.heap.size<w1.heap.size:=(by omega))
  go_ret
  exact⟨rfl,z_x⟩
 obtain⟨h1,h2,h3,h4⟩:=mayB_true.1 hm
 have hb:=cN (a:=W) (b:=H) (A:=256) (B:=256) (by omega) h2 (by omega) h4
 have k1:IntKind.i64.wrap (W*H)=W*H:=IntWalk.i64_in _ (by omega)
 by_cases hl:(n:Int)=W*H
 ·have e0:aX W H n=0:=by simp[aX,hm,hl]
  rw[e0];clear e0
  have hl':((n:Int) !=W*H)=false:=by simpa using hl
  clear hl
  go_enter Tryz.func34,Tryz.ntmps34
  go_wp2_with (go_at_call 76;refine(iX _ _ _).mono ?_;rintro e w1 ⟨rfl,hb1⟩;obtain⟨hc1,hf1⟩:=hb1.cells;have hz1:=hb1.size;(try simp only[zS]at hz1);have z1_0:w.heap.size<w1.heap.size:=(by omega))
  go_ret
  exact⟨rfl,z_x⟩
 have e0:aX W H n=12:=by simp[aX,hm,hl]
 rw[e0];clear e0
 have hl':((n:Int) !=W*H)=true:=by simpa using hl
 clear hl
 go_enter Tryz.func34,Tryz.ntmps34
 go_wp2_with (go_at_call 76;refine(iX _ _ _).mono ?_;rintro e w1 ⟨rfl,hb1⟩;obtain⟨hc1,hf1⟩:=hb1.cells;have hz1:=hb1.size;(try simp only[zS]at hz1);have z1_0:w.heap.size<w1.heap.size:=(by omega))
 go_ret
 exact⟨rfl,z_x⟩
theorem pD (W H:Int) (w:World):Calls Tryz.prog 127 #[.agg #[.int .i64 W, .int .i64 H]] w fun e w'=>e= .returned (.bool (bW W H))∧Ext w w':=by
 go_enter Tryz.func127,Tryz.ntmps127
 go_wp2
 all_goals go_ret
 all_goals exact⟨by first|(simp[bW,fO, *];done)|(simp[bW,fO];omega)|(simp[bW,fO, *];omega),z_x⟩
theorem aA0 (W H:Int) (a:Option Addr) (n c:Nat) (w:World):
  Calls Tryz.prog 74 #[.agg #[.int .i64 W, .int .i64 H, .slice a n c]] w fun e w'=>e= .returned (.int .i64 (aX W H n))∧Ext w w':=by
 cases hm:bW W H
 ·have e0:aX W H n=10:=by simp[aX,hm]
  rw[e0];clear e0
  go_enter Tryz.func74,Tryz.ntmps74
  go_wp2_with (go_at_call 127;refine(pD _ _ _).mono ?_;rintro e w1 ⟨rfl,hb1⟩;obtain⟨hc1,hf1⟩:=hb1.cells;have hz1:=hb1.size;(try simp only[zS]at hz1);have z1_0:w.heap.size<w1.heap.size:=(by omega))
  go_ret
  exact⟨rfl,z_x⟩
 obtain⟨h1,h2,h3,h4⟩:=mayB_true.1 hm
 have hb:=cN (a:=W) (b:=H) (A:=256) (B:=256) (by omega) h2 (by omega) h4
 have k1:IntKind.i64.wrap (W*H)=W*H:=IntWalk.i64_in _ (by omega)
 by_cases hl:(n:Int)=W*H
 ·have e0:aX W H n=0:=by simp[aX,hm,hl]
  rw[e0];clear e0
  have hl':((n:Int) !=W*H)=false:=by simpa using hl
  clear hl
  go_enter Tryz.func74,Tryz.ntmps74
  go_wp2_with (go_at_call 127;refine(pD _ _ _).mono ?_;rintro e w1 ⟨rfl,hb1⟩;obtain⟨hc1,hf1⟩:=hb1.cells;have hz1:=hb1.size;(try simp only[zS]at hz1);have z1_0:w.heap.size<w1.heap.size:=(by omega))
  go_ret
  exact⟨rfl,z_x⟩
 have e0:aX W H n=12:=by simp[aX,hm,hl]
 rw[e0];clear e0
 have hl':((n:Int) !=W*H)=true:=by simpa using hl
 clear hl
 go_enter Tryz.func74,Tryz.ntmps74
 go_wp2_with (go_at_call 127;refine(pD _ _ _).mono ?_;rintro e w1 ⟨rfl,hb1⟩;obtain⟨hc1,hf1⟩:=hb1.cells;have hz1:=hb1.size;(try simp only[zS]at hz1);have z1_0:w.heap.size<w1.heap.size:=(by omega))
 go_ret
 exact⟨rfl,z_x⟩
theorem jO {W H x y:Int} (h1:0≤x) (h2:x<W) (h3:0≤y) (h4:y<H):0≤y*W∧0≤y*W+x∧y*W+x<W*H:=by
 have a:=Int.mul_nonneg h3 (show 0≤W by omega)
 have b:y*W≤(H-1)*W:=Int.mul_le_mul_of_nonneg_right (by omega) (by omega)
 rw[Int.sub_mul,Int.mul_comm H]at b
 omega
def aL (l:List Int) (W:Int) (p:aB):Int:=l.getD (p.2*W+p.1).toNat 0
theorem bX {l:List Int} (h:cV l) (W:Int) (p:aB):0≤aL l W p∧aL l W p≤65535:=by
 unfold aL
 rw[List.getD_eq_getElem?_getD]
 cases hh:l[(p.2*W+p.1).toNat]? with
 |none=>simp
 |some x=>exact h x (List.mem_of_getElem? hh)
theorem gJ {w:World} {a:Option Addr} {l:List Int} (h:Row16 w a l) {W H x y:Int} (hl:(l.length:Int)=W*H) (h1:0≤x) (h2:x<W) (h3:0≤y) (h4:y<H):
  ∃b off,a=some ⟨b,off,none⟩∧b<w.heap.size∧w.cell? ⟨b,off+(y*W+x).toNat,none⟩=some (.int .u16 (aL l W (x,y))):=by
 have hb:=jO h1 h2 h3 h4
 have hk:(y*W+x).toNat<l.length:=by omega
 obtain⟨b,off,ha,hlt,hc⟩:=h (by omega)
 refine⟨b,off,ha,hlt,?_⟩
 rw[hc _ hk]
 unfold aL
 simp[List.getD_eq_getElem?_getD,hk]
theorem fM (W H:Int) (a:Option Addr) (l:List Int) (c:Nat) (x y:Int) (w:World) (hm:bW W H=true) (hl:(l.length:Int)=W*H) (hr:Row16 w a l) (hu:cV l) (h1:0≤x) (h2:x<W) (h3:0≤y) (h4:y<H):
  Calls Tryz.prog 20 #[.agg #[.int .i64 W, .int .i64 H, .slice a l.length c], .agg #[.int .i64 x, .int .i64 y]] w fun e w'=>e= .returned (.int .u64 (aL l W (x,y)))∧Ext w w':=by
 obtain⟨m1,m2,m3,m4⟩:=mayB_true.1 hm
 obtain⟨b,off,rfl,hb,hc⟩:=gJ hr hl h1 h2 h3 h4
 have cb:=bX hu W (x,y)
 have ib:=jO h1 h2 h3 h4
 have ib2:y*W+x<(l.length:Int):=by omega
 have wb:=cN (a:=W) (b:=H) (A:=256) (B:=256) (by omega) m2 (by omega) m4
 have k1:IntKind.i64.wrap (y*W)=y*W:=IntWalk.i64_in _ (by omega)
 have k2:IntKind.i64.wrap (y*W+x)=y*W+x:=IntWalk.i64_in _ (by omega)
 generalize aL l W (x,y)=v at *
 obtain⟨n,hn⟩: ∃n,l.length=n:=⟨_,rfl⟩
 rw[hn]at ib2⊢
 clear hr hl hn hu
 go_enter Tryz.func20,Tryz.ntmps20
 go_wp2
 go_ret
 exact⟨rfl,z_x⟩
theorem qW (a b c d:Int) (w:World):(Op.equalIn 10000 23 (.agg #[.int .i64 a, .int .i64 b]) (.agg #[.int .i64 c, .int .i64 d])).run Tryz.prog w= .ok (a==c&&b==d) w:=by
 have u:Tryz.prog.underlying 23=some (.struct (Tryz.prog.fieldsOf 23)):=by kernel_rfl
 have s:Tryz.prog.stoodInHeld 23=false:=by kernel_rfl
 rw[run_equalIn_struct w 9999 23 _ _ u s]
 cases h:a==c<;>cases h':b==d<;>simp[go_sem,h,h']
end Go.Proofs.YtaellcgglldjaaaGreat

