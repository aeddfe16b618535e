/- Part of a proof: GateA. -/
import Derived.Test.YtaellcgglldjaaaGreatHierFindsQ03
import Derived.Test.YtaellcgglldjaaaGreatHierFindsQ01
import Derived.ScopeJumps
import Derived.WalkMore
import Derived.Test.YtaellcgglldjaaaGreatHierFindsQ05
import Derived.Test.YtaellcgglldjaaaGreatHierFindsQ04
import Derived.Laws.EntriesVeiled
set_option linter.all false
set_option linter.unusedVariables false
set_option linter.unusedSimpArgs false
namespace Go.Proofs.YtaellcgglldjaaaGreat
open Go.RowKit
def lW (W H pW pH:Int) (n:Nat):Int:=if aX W H n=0 then(if pW=W∧pH=H then 0 else 1) else aX W H n
theorem aBl (W H:Int) (a:Option Addr) (n c:Nat) (pW pH s:Int) (w:World):
  Calls Tryz.prog 128 #[.agg #[.int .i64 W, .int .i64 H, .slice a n c], .agg #[.int .i64 pW, .int .i64 pH, .int .i64 s]] w fun e w'=>e= .returned (.int .i64 (lW W H pW pH n))∧Ext w w':=by
 have hq:=fun w=>qW pW pH W H w
 by_cases h0:aX W H n=0
 ·have h0':(aX W H n !=0)=false:=by simpa using h0
  by_cases he:pW=W∧pH=H
  ·have e0:lW W H pW pH n=0:=by simp[lW,h0,he]
   rw[e0]
   have q:(pW==W&&pH==H)=true:=by simpa using he
   clear e0 h0 he
   go_enter Tryz.func128,Tryz.ntmps128
   go_wp2_with (go_at_call 34;refine(cX _ _ _ _ _ _).mono ?_;rintro e w1 ⟨rfl,hb1⟩;obtain⟨hc1,hf1⟩:=hb1.cells;have hz1:=hb1.size;(try simp only[zS]at hz1);have z1_0:w.heap.size<w1.heap.size:=(by omega);have z1_1:w.heap.size+1<w1.heap.size:=(by omega))
   go_ret
   exact⟨rfl,z_x⟩
  have e0:lW W H pW pH n=1:=by simp[lW,h0,he]
  rw[e0]
  have q:(pW==W&&pH==H)=false:=by simpa using he
  clear e0 h0 he
  go_enter Tryz.func128,Tryz.ntmps128
  go_wp2_with (go_at_call 34;refine(cX _ _ _ _ _ _).mono ?_;rintro e w1 ⟨rfl,hb1⟩;obtain⟨hc1,hf1⟩:=hb1.cells;have hz1:=hb1.size;(try simp only[zS]at hz1);have z1_0:w.heap.size<w1.heap.size:=(by omega);have z1_1:w.heap.size+1<w1.heap.size:=(by omega))
  go_ret
  exact⟨rfl,z_x⟩
 have h0':(aX W H n !=0)=true:=by simpa using h0
 have e0:lW W H pW pH n=aX W H n:=by simp[lW,h0]
 rw[e0]
 clear e0 h0 hq
 go_enter Tryz.func128,Tryz.ntmps128
 go_wp2_with (go_at_call 34;refine(cX _ _ _ _ _ _).mono ?_;rintro e w1 ⟨rfl,hb1⟩;obtain⟨hc1,hf1⟩:=hb1.cells;have hz1:=hb1.size;(try simp only[zS]at hz1);have z1_0:w.heap.size<w1.heap.size:=(by omega);have z1_1:w.heap.size+1<w1.heap.size:=(by omega))
 go_ret
 exact⟨rfl,z_x⟩
theorem yZ (W H:Int) (a:Option Addr) (l:List Int) (c q:Nat) (x y:Int) (w:World) (hm:bW W H=true) (hl:(l.length:Int)=W*H) (hr:Row16 w a l) (hq:q<w.heap.size)
  (c0:w.cell? ⟨q,0,none⟩=some (.int .i64 W)) (c1:w.cell? ⟨q,2,none⟩=some (.slice a l.length c)) (h1:0≤x) (h2:x<W) (h3:0≤y) (h4:y<H):
  Calls Tryz.prog 130 #[.agg #[.int .i64 x, .int .i64 y], .pointer (some ⟨q,0,none⟩)] w fun e w'=>e= .returned (.int .u16 (aL l W (x,y)))∧Ext w w':=by
 obtain⟨m1,m2,m3,m4⟩:=mayB_true.1 hm
 obtain⟨b,off,rfl,hb,hc⟩:=gJ hr hl h1 h2 h3 h4
 have ib:=jO h1 h2 h3 h4
 have ib2:y*W+x<(l.length:Int):=by omega
 have wb:=cN (a:=W) (b:=H) (A:=256) (B:=256) (by omega) m2 (by omega) m4
 have k1:IntKind.i64.wrap (y*W)=y*W:=IntWalk.i64_in _ (by omega)
 have k2:IntKind.i64.wrap (y*W+x)=y*W+x:=IntWalk.i64_in _ (by omega)
 generalize aL l W (x,y)=v at *
 obtain⟨n,hn⟩: ∃n,l.length=n:=⟨_,rfl⟩
 rw[hn]at ib2 c1
 clear hr hl hn
 go_enter Tryz.func130,Tryz.ntmps130
 go_wp2
 go_ret
 exact⟨rfl,z_x⟩
def lY (l:List Int) (W:Int) (p:aB×aB):Bool:=decide (0<aL l W p.1)&&decide (0<aL l W p.2)
theorem aJ5 (W H:Int) (a:Option Addr) (l:List Int) (c q r:Nat) (p:aB×aB) (w:World) (hm:bW W H=true) (hl:(l.length:Int)=W*H) (hr:Row16 w a l) (hq:q<w.heap.size) (hrr:r<w.heap.size)
  (c0:w.cell? ⟨q,0,none⟩=some (.int .i64 W)) (c1:w.cell? ⟨q,2,none⟩=some (.slice a l.length c)) (c2:w.cell? ⟨r,0,none⟩=some (.func (.func 130) #[] #[.pointer (some ⟨q,0,none⟩)]))
  (h1:0≤p.1.1∧p.1.1<W∧0≤p.1.2∧p.1.2<H) (h2:0≤p.2.1∧p.2.1<W∧0≤p.2.2∧p.2.2<H):
  Calls Tryz.prog 132 #[.agg #[.int .i64 p.1.1, .int .i64 p.1.2, .int .i64 p.2.1, .int .i64 p.2.2], .pointer (some ⟨r,0,none⟩)] w fun e w'=>e= .returned (.bool (lY l W p))∧Ext w w':=by
 obtain⟨⟨ax,ay⟩,bx,bY⟩:=p
 simp only at h1 h2⊢
 have k1: ∀w',Ext w w'→Calls Tryz.prog 130 #[.agg #[.int .i64 ax, .int .i64 ay], .pointer (some ⟨q,0,none⟩)] w' fun e w2=>e= .returned (.int .u16 (aL l W (ax,ay)))∧Ext w' w2:=fun w' hx=>
  yZ W H a l c q ax ay w' hm hl (hr.ext hx) (Nat.lt_of_lt_of_le hq hx.size) ((hx.cell (p:=⟨q,0,none⟩) hq).trans c0) ((hx.cell (p:=⟨q,2,none⟩) hq).trans c1) h1.1 h1.2.1 h1.2.2.1 h1.2.2.2
 have k2: ∀w',Ext w w'→Calls Tryz.prog 130 #[.agg #[.int .i64 bx, .int .i64 bY], .pointer (some ⟨q,0,none⟩)] w' fun e w2=>e= .returned (.int .u16 (aL l W (bx,bY)))∧Ext w' w2:=fun w' hx=>
  yZ W H a l c q bx bY w' hm hl (hr.ext hx) (Nat.lt_of_lt_of_le hq hx.size) ((hx.cell (p:=⟨q,0,none⟩) hq).trans c0) ((hx.cell (p:=⟨q,2,none⟩) hq).trans c1) h2.1 h2.2.1 h2.2.2.1 h2.2.2.2
 have K1:=aA k1
 have K2:=aA k2
 unfold lY
 simp only
 generalize aL l W (ax,ay)=u at *
 generalize aL l W (bx,bY)=v at *
 clear k1 k2 hm hl hr c0 c1 h1 h2
 by_cases hu0:0<u
 ·go_enter Tryz.func132,Tryz.ntmps132
  go_wp2_with fail
  refine(K1.out _ z_x).mono ?_
  rintro e w1 ⟨rfl,hb1⟩
  obtain⟨hc1,hf1⟩:=hb1.cells;have hz1:=hb1.size;(try simp only[zS]at hz1);have z1_0:r<w1.heap.size:=(by omega);have z1_1:w.heap.size<w1.heap.size:=(by omega)
  go_wp2_with fail
  refine(K2.out _ z_x).mono ?_
  rintro e w2 ⟨rfl,hb2⟩
  go_wp2
  go_ret
  exact⟨by simp[hu0],z_x⟩
 go_enter Tryz.func132,Tryz.ntmps132
 go_wp2_with fail
 refine(K1.out _ z_x).mono ?_
 rintro e w1 ⟨rfl,hb1⟩
 obtain⟨hc1,hf1⟩:=hb1.cells;have hz1:=hb1.size;(try simp only[zS]at hz1);have z1_0:r<w1.heap.size:=(by omega);have z1_1:w.heap.size<w1.heap.size:=(by omega)
 go_wp2
 go_ret
 have hu1: ¬0<u:=by omega
 exact⟨by simp[hu1],z_x⟩
def kJ (f:Nat→Bool):Nat→Nat
 |0=>0
 |n+1=>if f 0=true then 1+kJ (fun j=>f (j+1)) n else 0
theorem nH (n:Nat): ∀f:Nat→Bool,kJ f n≤n∧(∀j,j<kJ f n→f j=true)∧(kJ f n<n→f (kJ f n)=false):=by
 induction n with
 |zero=>intro f;exact⟨Nat.le_refl _,fun j hj=>by simp[kJ]at hj,fun h=>by simp[kJ]at h⟩
 |succ n ih=>
  intro f
  have h:=ih (fun j=>f (j+1))
  unfold kJ
  by_cases h0:f 0=true
  ·rw[if_pos h0]
   refine⟨by omega,fun j hj=> ?_,fun hl=> ?_⟩
   ·cases j with
    |zero=>exact h0
    |succ j=>exact h.2.1 j (by omega)
   have:=h.2.2 (by omega)
   rw[Nat.add_comm];exact this
  rw[if_neg h0]
  exact⟨by omega,fun j hj=>by omega,fun _=>by simpa using h0⟩
theorem uU {f:Nat→Bool} {n a:Nat} (ha:a≤n) (h1: ∀j,j<a→f j=true) (h2:a=n∨f a=false):kJ f n=a:=by
 obtain⟨s1,s2,s3⟩:=nH n f
 apply Nat.le_antisymm
 ·apply Nat.le_of_not_lt
  intro h
  have:=s2 a h
  rcases h2 with h2|h2
  ·omega
  rw[h2]at this;cases this
 apply Nat.le_of_not_lt
 intro h
 have k1:=s3 (by omega)
 rw[h1 _ h]at k1
 cases k1
def iK (o:Nat→Bool) (n i:Nat):Nat:=i+kJ (fun j=>o (i+j)) (n-i)
theorem aLv {o:Nat→Bool} {n i e:Nat} (h0:i≤e) (hn:e≤n) (h1: ∀j,i≤j→j<e→o j=true) (h2:e=n∨o e=false):iK o n i=e:=by
 unfold iK
 rw[uU (a:=e-i) (by omega) (fun j hj=>h1 _ (by omega) (by omega)) (by
  rcases h2 with h2|h2
  ·left;omega
  right;rw[show i+(e-i)=e by omega];exact h2)]
 omega
theorem wW {o:Nat→Bool} {n i:Nat} (hi:i≤n):i≤iK o n i∧iK o n i≤n∧(∀j,i≤j→j<iK o n i→o j=true)∧(iK o n i=n∨o (iK o n i)=false):=by
 obtain⟨s1,s2,s3⟩:=nH (n-i) (fun j=>o (i+j))
 unfold iK
 refine⟨by omega,by omega,fun j h1 h2=> ?_,?_⟩
 ·have:=s2 (j-i) (by omega)
  rwa [show i+(j-i)=j by omega]at this
 by_cases h:kJ (fun j=>o (i+j)) (n-i)<n-i
 ·exact .inr (s3 h)
 left;omega
theorem aDd {o:Nat→Bool} {n i:Nat} (hi:i<n) (h:o i=true):i<iK o n i:=by
 obtain⟨s1,_,_,s4⟩:=wW (o:=o) (n:=n) (i:=i) (by omega)
 apply Nat.lt_of_le_of_ne s1
 intro e
 rw[←e]at s4
 rcases s4 with s4|s4
 ·omega
 rw[h]at s4;cases s4
def dF (o:Nat→Bool) (n i:Nat):List Nat:=
 if h:i<n then
  if ho:o i=true then(i+(iK o n i-i-1)/2)::dF o n (iK o n i)
  else dF o n (i+1)
 else[]
termination_by n-i
decreasing_by
 ·have:=aDd h ho;omega
 omega
theorem vV {o:Nat→Bool} {n:Nat}:dF o n n=[]:=by unfold dF;simp
theorem tK {o:Nat→Bool} {n i:Nat} (h:i<n) (ho:o i=false):dF o n i=dF o n (i+1):=by
 rw[dF,dif_pos h,dif_neg (by simp[ho])]
theorem kX {o:Nat→Bool} {n i e:Nat} (h:i<e) (he:e≤n) (h1: ∀j,i≤j→j<e→o j=true) (h2:e=n∨o e=false):dF o n i=(i+(e-i-1)/2)::dF o n e:=by
 rw[dF,dif_pos (by omega),dif_pos (h1 i (Nat.le_refl _) h),aLv (by omega) he h1 h2]
def iB (o:Nat→Bool) (i:Nat):Nat:=kJ (fun j=>o (i-1-j)) i
def iU (o:Nat→Bool) (n i:Nat):Nat:=kJ (fun j=>o (i+1+j)) (n-i-1)
def iO (o:Nat→Bool) (n i:Nat):Bool:=o i&&decide (iB o i=(iB o i+iU o n i)/2)
def gA (o:Nat→Bool) (n m:Nat):List Nat:=(List.range m).filter (iO o n)
theorem aHj (o:Nat→Bool) (n m:Nat):gA o n (m+1)=gA o n m++if iO o n m=true then[m] else[]:=by
 unfold gA
 rw[List.range_succ,List.filter_append]
 congr 1
 by_cases h:iO o n m=true<;>simp[h]
theorem tG (x:Nat): ∀(c i:Nat),i≤x→x<i+c→(List.range' i c).filter (fun k=>decide (k=x))=[x]
 |0,i,h1,h2=>by omega
 |c+1,i,h1,h2=>by
  rw[List.range'_succ,List.filter_cons]
  by_cases h:i=x
  ·subst h
   simp only[decide_true,if_true]
   congr 1
   rw[List.filter_eq_nil_iff]
   intro k hk
   rw[List.mem_range']at hk
   obtain⟨j,hj,rfl⟩:=hk
   simp;omega
  simp only[h,decide_false,Bool.false_eq_true,if_false]
  exact tG x c (i+1) (by omega) (by omega)
theorem aGc (o:Nat→Bool) (n:Nat): ∀(d i:Nat),n-i=d→i≤n→(i=0∨o (i-1)=false∨o i=false∨i=n)→dF o n i=(List.range' i (n-i)).filter (iO o n):=by
 intro d
 induction d using Nat.strongRecOn with
 |_ d ih=>
  intro i hd hi hb
  by_cases h:i<n
  ·cases ho:o i
   ·rw[tK h ho,ih (n-(i+1)) (by omega) (i+1) rfl (by omega) (.inr (.inl (by simpa using ho)))]
    rw[show n-i=(n-(i+1))+1 by omega,List.range'_succ,List.filter_cons]
    simp[iO,ho]
   obtain⟨s1,s2,s3,s4⟩:=wW (o:=o) (n:=n) (i:=i) hi
   have s5:=aDd h ho
   generalize iK o n i=e at *
   have hb':i=0∨o (i-1)=false:=by
    rcases hb with hb|hb|hb|hb
    ·exact .inl hb
    ·exact .inr hb
    ·rw[ho]at hb;cases hb
    omega
   rw[kX s5 s2 s3 s4,ih (n-e) (by omega) e rfl s2 (by
    rcases s4 with s4|s4
    ·exact .inr (.inr (.inr s4))
    exact .inr (.inr (.inl s4)))]
   rw[show n-i=(e-i)+(n-e) by omega,←List.range'_append_1,List.filter_append,show i+(e-i)=e by omega]
   have hm: ∀k∈List.range' i (e-i),iO o n k=decide (k=i+(e-i-1)/2):=by
    intro k hk
    rw[List.mem_range'_1]at hk
    have ha:iB o k=k-i:=uU (by omega) (fun j hj=>s3 _ (by omega) (by omega)) (by
     rcases hb' with hb'|hb'
     ·left;omega
     right;rw[show k-1-(k-i)=i-1 by omega];exact hb')
    have hbe:iU o n k=e-1-k:=uU (by omega) (fun j hj=>s3 _ (by omega) (by omega)) (by
     rcases s4 with s4|s4
     ·left;omega
     right;rw[show k+1+(e-1-k)=e by omega];exact s4)
    unfold iO
    rw[s3 k (by omega) (by omega),ha,hbe,Bool.true_and]
    rw[decide_eq_decide]
    omega
   rw[List.filter_congr hm,tG _ _ _ (by omega) (by omega)]
   rfl
  obtain rfl:i=n:=by omega
  rw[vV];simp
theorem aGb (o:Nat→Bool) (n:Nat):dF o n 0=gA o n n:=by
 rw[aGc o n n 0 (by omega) (by omega) (.inl rfl),gA,Nat.sub_zero,List.range_eq_range']
def tM (J:Nat→Act→World→Prop) (Q:Exit→Act→World→Prop):Exit→Act→World→Prop
 | .goto l,a,w=>J l a w
 |e,a,w=>Q e a w
theorem xM {P:Program} {a:Act} {w:World} {Q:Exit→Act→World→Prop} {c:Code} (J:Nat→Act→World→Prop) (μ:Nat→Act→World→Nat)
  (first:c.wp P (tM J Q) a w)
  (pass: ∀l a w,J l a w→ ∃rest,findLabel c l=some rest∧rest.wp P (tM (fun l' a' w'=>J l' a' w'∧μ l' a' w'<μ l a w) Q) a w):(Code.scope c).wp P Q a w:=by
 intro b k cs
 have key: ∀n l a w rest,μ l a w=n→J l a w→findLabel c l=some rest→ ∃e a' w',Q e a' w'∧Arrives P (lone (b.at a (.code rest:: .inScope c::k)) cs w) b k cs e a' w':=by
  intro n
  induction n using Nat.strongRecOn with
  |_ n ih=>
   intro l a w rest hn hJ hf
   obtain⟨rest',hf',hp⟩:=pass l a w hJ
   obtain rfl:rest=rest':=Option.some.inj (hf.symm.trans hf')
   obtain⟨e,a₁,w₁,hq,harr⟩:=hp b (.inScope c::k) cs
   cases e with
   |normal=>exact⟨.normal,a₁,w₁,hq,Steps.trans harr (.one step_inScope)⟩
   |exit id=>exact⟨.exit id,a₁,w₁,hq,fun k' hk=>harr k' (by simp[exitTo,hk])⟩
   |goto l'=>
    obtain⟨hJ',hlt⟩:=hq
    obtain⟨rest2,hf2,_⟩:=pass l' a₁ w₁ hJ'
    have hg:gotoIn l' (.inScope c::k)=some (.code rest2:: .inScope c::k):=by simp[gotoIn,hf2]
    obtain⟨e₂,a₂,w₂,hq₂,harr₂⟩:=ih _ (by omega) l' a₁ w₁ rest2 rfl hJ' hf2
    exact⟨e₂,a₂,w₂,hq₂, .of_steps (harr _ hg) harr₂⟩
   |ret=>exact⟨_,a₁,w₁,hq,harr⟩
   |panic ch=>exact⟨_,a₁,w₁,hq,harr⟩
   |outgrown=>exact⟨_,a₁,w₁,hq,harr⟩
 obtain⟨e,a₁,w₁,hq,harr⟩:=first b (.inScope c::k) cs
 cases e with
 |normal=>exact⟨.normal,a₁,w₁,hq, .head step_scope (Steps.trans harr (.one step_inScope))⟩
 |exit id=>exact⟨.exit id,a₁,w₁,hq,fun k' hk=> .head step_scope (harr k' (by simp[exitTo,hk]))⟩
 |goto l'=>
  obtain⟨rest2,hf2,_⟩:=pass l' a₁ w₁ hq
  have hg:gotoIn l' (.inScope c::k)=some (.code rest2:: .inScope c::k):=by simp[gotoIn,hf2]
  obtain⟨e₂,a₂,w₂,hq₂,harr₂⟩:=key _ l' a₁ w₁ rest2 rfl hq hf2
  exact⟨e₂,a₂,w₂,hq₂, .of_steps (.head step_scope (harr _ hg)) harr₂⟩
 |ret=>exact⟨_,a₁,w₁,hq, .of_steps (.one step_scope) harr⟩
 |panic ch=>exact⟨_,a₁,w₁,hq, .of_steps (.one step_scope) harr⟩
 |outgrown=>exact⟨_,a₁,w₁,hq, .of_steps (.one step_scope) harr⟩
def aEf:Exit→Act→World→Prop:=fun _ _ _=>False
theorem vD {P:Program} {a:Act} {w:World} {Q:Exit→Act→World→Prop} {p1 p2 rest:Code} {l0:Nat} (J:Nat→Act→World→Prop) (μ:Nat→Act→World→Nat)
  (hf:findLabel (p1.seq (p2.seq ((Code.label l0).seq rest))) l0=some (Code.skip.seq rest))
  (first:p1.wp P (Exit.then (fun a w=>p2.wp P (Exit.then (J l0) aEf) a w) aEf) a w)
  (pass: ∀l a w,J l a w→ ∃r,findLabel (p1.seq (p2.seq ((Code.label l0).seq rest))) l=some (Code.skip.seq r)∧r.wp P (tM (fun l' a' w'=>J l' a' w'∧μ l' a' w'<μ l a w) Q) a w):
  (Code.scope (p1.seq (p2.seq ((Code.label l0).seq rest)))).wp P Q a w:=by
 refine xM J μ ?_ fun l a w h=> ?_
 ·have up: ∀{R:Act→World→Prop} {S:Act→World→Prop} {x:Code} {a:Act} {w:World},x.wp P (Exit.then R aEf) a w→(∀a w,R a w→S a w)→x.wp P (Exit.then S (tM J Q)) a w:=by
   intro R S x a w h hs
   refine Go.wp_mono h ?_
   intro e a w q
   cases e<;>first|exact hs _ _ q|exact q.elim
  refine wp_seq (up first fun a w h1=>wp_seq (up h1 fun a w h3=>wp_seq (wp_label ?_)))
  obtain⟨r,hr,hw⟩:=pass l0 a w h3
  have e:r=rest:=by
   have:=hr.symm.trans hf
   injection this with this
   injection this
  subst e
  refine Go.wp_mono hw ?_
  intro e a w q
  cases e<;>first|exact q.1|exact q
 obtain⟨r,hr,hw⟩:=pass l a w h
 exact⟨_,hr,wp_seq (wp_skip hw)⟩
theorem nV:cH Tryz.prog 76 160 (.agg #[.int .i64 0, .int .i64 0, .int .i64 0, .int .i64 0]) 4 32:=⟨Tryz.underlying76,by kernel_rfl,rfl,by decide⟩
def aCd (V F o fr:Value) (i:Nat) (a:Act):Prop:= ∃(u8 u9 u10 u11 u12 u13 u14 u15 u16 u17 u18 u19 u20 u21 u22 u23 u24 u25 u26 u27 u28 u29 u30 u31 u32 u33 u34 u35 u36 u37 u38 u39 u40 u41 u42 u43 u44 u45 u46 u47 u48 u49 u50 u51 u52 u53 u54 u55:Value),a={tmps:= #[V,F,undef,undef, .slice none 0 0,o, .int .i64 (i:Int),fr,u8,u9,u10,u11,u12,u13,u14,u15,u16,u17,u18,u19,u20,u21,u22,u23,u24,u25,u26,u27,u28,u29,u30,u31,u32,u33,u34,u35,u36,u37,u38,u39,u40,u41,u42,u43,u44,u45,u46,u47,u48,u49,u50,u51,u52,u53,u54,u55],defers:=[]}
def eC (B:List (aB×aB)) (l:List Nat):List (aB×aB):=l.filterMap fun k=>B[k]?
theorem fC (B:List (aB×aB)) (l:List Nat) (k:Nat) (p:aB×aB) (h:B[k]? =some p):eC B (l++[k])=eC B l++[p]:=by simp[eC,h]
def aMt (op:Nat→Bool) (B:List (aB×aB)) (V F:Value) (base:Nat) (w0:World) (a:Act) (w:World):Prop:=
 ∃(i:Nat) (o fr:Value) (D:List Nat),aCd V F o fr i a∧i≤B.length∧D++dF op B.length i=dF op B.length 0∧(eC B D).length≤i∧Own aT w base 160 o (eC B D)∧Below base w0 w
def aN2 (op:Nat→Bool) (B:List (aB×aB)) (V F:Value) (base:Nat) (w0:World) (a:Act) (w:World):Prop:=
 ∃(i fr:Nat) (o:Value) (D:List Nat),aCd V F o (.int .i64 (fr:Int)) i a∧fr≤i∧i<B.length∧(∀j,fr≤j→j≤i→op j=true)∧D++dF op B.length fr=dF op B.length 0∧(eC B D).length≤fr∧Own aT w base 160 o (eC B D)∧Below base w0 w
def aMs (op:Nat→Bool) (B:List (aB×aB)) (V F:Value) (base:Nat) (w0:World) (l:Nat) (a:Act) (w:World):Prop:=
 (l=0∧aMt op B V F base w0 a w)∨(l=1∧aN2 op B V F base w0 a w)
theorem mV {w0 wr x w9:World} {q:Nat} (h:Below q w0 wr) (e:Ext wr x) (hq:q≤wr.heap.size) (k:Below q x w9):Below q w0 w9:=(h.trans (Below.mono e hq)).trans k
def aIc (w:World) (L:List (aB×aB)) (e:Ending) (w':World):Prop:= ∃v,e= .returned v∧Ext w w'∧Own aT w' w.heap.size 160 v L
set_option maxRecDepth 100000 in
set_option maxHeartbeats 4000000 in
theorem aDy (g c:Nat) (B:List (aB×aB)) (r:Value) (op:Nat→Bool) (w:World) (hB:B.length≤1000) (hb:g<w.heap.size) (hP:PairsAt w g 0 B)
  (hop: ∀w',Ext w w'→ ∀k p,B[k]? =some p→Calls Tryz.prog 132 #[.agg #[.int .i64 p.1.1, .int .i64 p.1.2, .int .i64 p.2.1, .int .i64 p.2.2],r] w' fun e w2=>e= .returned (.bool (op k))∧Ext w' w2):
  Calls Tryz.prog 131 #[.slice (some ⟨g,0,none⟩) B.length c, .func (.func 132) #[] #[r]] w (aIc w (eC B (dF op B.length 0))):=by
 have HP:=aA hP
 have HOP:=aA hop
 clear hP hop
 have hdiv: ∀x:Int,0≤x→x.tdiv 2=x/2:=fun x hx=>Int.tdiv_eq_ediv_of_nonneg hx
 have HDIV:=aA hdiv
 clear hdiv
 go_enter Tryz.func131,Tryz.ntmps131
 go_wp2
 refine vD (aMs op B (.slice (some ⟨g,0,none⟩) B.length c) (.func (.func 132) #[] #[r]) w.heap.size w) (fun _ a _=>B.length-(intOf (a.tmps.getD 6 undef)).toNat) ?_ ?_ ?_
 ·rfl
 ·go_wp2
  exact .inl ⟨rfl,0,_,_,[],⟨_,_,_,_,_,_,_,_,_,_,_,_,_,_,_,_,_,_,_,_,_,_,_,_,_,_,_,_,_,_,_,_,_,_,_,_,_,_,_,_,_,_,_,_,_,_,_,_,rfl⟩,Nat.zero_le _,rfl,Nat.le_refl _,Own.nil _ _ _ _,Below.refl _ _⟩
 rintro l a wr (⟨rfl,i,o,fr,D,⟨u8,u9,u10,u11,u12,u13,u14,u15,u16,u17,u18,u19,u20,u21,u22,u23,u24,u25,u26,u27,u28,u29,u30,u31,u32,u33,u34,u35,u36,u37,u38,u39,u40,u41,u42,u43,u44,u45,u46,u47,u48,u49,u50,u51,u52,u53,u54,u55,rfl⟩,hi,hD,hlen,hown,hbel⟩|⟨rfl,i,fr,o,D,⟨u8,u9,u10,u11,u12,u13,u14,u15,u16,u17,u18,u19,u20,u21,u22,u23,u24,u25,u26,u27,u28,u29,u30,u31,u32,u33,u34,u35,u36,u37,u38,u39,u40,u41,u42,u43,u44,u45,u46,u47,u48,u49,u50,u51,u52,u53,u54,u55,rfl⟩,hfi,hi,hF,hD,hlen,hown,hbel⟩)
 ·refine⟨_,rfl,?_⟩
  dsimp only
  have HO:=aA hown
  have HD:=aA hD
  have hxr:Ext w wr:=hbel
  have hbel0:Below w.heap.size w wr:=hbel
  have hz:=hxr.size
  have zr:g<wr.heap.size:=by omega
  clear hown hD hbel
  by_cases hlt:i<B.length
  ·have hne:((i:Int)==(B.length:Int))=false:=by rw[beq_eq_false_iff_ne];omega
   obtain⟨x,hx⟩: ∃x,B[i]? =some x:=⟨_,zG hlt⟩
   have ex:B[i]=x:=by rw[zG hlt]at hx;exact Option.some.inj hx
   obtain⟨x1,x2,x3,x4⟩:=(HP.out.ext hb hxr) (i) hlt
   rw[ex]at x1 x2 x3 x4
   simp only[Nat.zero_add]at x1 x2 x3 x4
   have Hx:=aA hx
   clear hx ex
   cases ho:op i
   ·go_wp2_with (go_at_call 132;refine(HOP.out _ hxr i x Hx.out).mono ?_;rintro x9 w3 ⟨rfl,hb3⟩;rw[ho];obtain⟨hc3,hf3⟩:=hb3.cells;have hz3:=hb3.size;(try simp only[zS]at hz3);have z3_0:g<w3.heap.size:=(by omega))
    go_step3
    refine And.intro (Or.inl ⟨rfl,i+1,_,_,D,⟨_,_,_,_,_,_,_,_,_,_,_,_,_,_,_,_,_,_,_,_,_,_,_,_,_,_,_,_,_,_,_,_,_,_,_,_,_,_,_,_,_,_,_,_,_,_,_,_,rfl⟩,by omega,?_,by omega,HO.out.ext z_x,?_⟩) ?_
    ·rw[←tK hlt ho];exact HD.out
    ·exact Ext.trans hxr z_x
    simp[intOf];omega
   have HF:=aA (show ∀j,i≤j→j≤i→op j=true from fun j j1 j2=>by have e:j=i:=(by omega);rw[e];exact ho)
   have HO1:=aA ho
   clear ho
   go_wp2_with (go_at_call 132;refine(HOP.out _ hxr i x Hx.out).mono ?_;rintro x9 w3 ⟨rfl,hb3⟩;rw[HO1.out];obtain⟨hc3,hf3⟩:=hb3.cells;have hz3:=hb3.size;(try simp only[zS]at hz3);have z3_0:g<w3.heap.size:=(by omega))
   go_step3
   have hx3:Ext wr w3:=z_x
   have HO3:=aA (HO.out.ext hx3)
   have hbel3:Below w.heap.size w w3:=Ext.trans hxr hx3
   have hz3:=hx3.size
   have zr3:g<w3.heap.size:=by omega
   clear x1 x2 x3 x4 hx3 hc3 hf3 hz3 z3_0 hb3 HO
   obtain⟨wq,hwq⟩: ∃wq,wq=w3:=⟨_,rfl⟩
   rw[←hwq]at HO3 hbel3 zr3⊢
   have hzq:w.heap.size≤wq.heap.size:=hbel3.size
   clear hwq hbel0 zr hz
   by_cases h2:i+1<B.length
   ·have h2i:(i:Int)+1<(B.length:Int):=by omega
    obtain⟨y,hy⟩: ∃y,B[i+1]? =some y:=⟨_,zG h2⟩
    have ey:B[i+1]=y:=by rw[zG h2]at hy;exact Option.some.inj hy
    obtain⟨y1,y2,y3,y4⟩:=(HP.out.ext hb (hbel3:Ext w wq)) (i+1) h2
    rw[ey]at y1 y2 y3 y4
    simp only[Nat.zero_add]at y1 y2 y3 y4
    have Hy:=aA hy
    clear hy ey
    cases ho2:op (i+1)
    ·have HG:=aA (kX (o:=op) (n:=B.length) (i:=i) (e:=(i+1)) (by omega) (by omega) (fun j j1 j2=>HF.out j j1 (by omega)) (.inr ho2))
     obtain⟨m,hm⟩: ∃m:Nat,m=i+((i+1)-i-1)/2:=⟨_,rfl⟩
     rw[←hm]at HG
     have hml:m<B.length:=by omega
     obtain⟨z,hz⟩: ∃z,B[m]? =some z:=⟨_,zG hml⟩
     have ez:B[m]=z:=by rw[zG hml]at hz;exact Option.some.inj hz
     obtain⟨z1,z2,z3,z4⟩:=(HP.out.ext hb (hbel3:Ext w wq)) (m) hml
     rw[ez]at z1 z2 z3 z4
     simp only[Nat.zero_add]at z1 z2 z3 z4
     have Hz:=aA hz
     clear hz ez
     have k2:((i:Int)+1-(i:Int)-1).tdiv 2=(m:Int)-(i:Int):=by rw[HDIV.out _ (by omega)];omega
     have k2':((i:Int)-(i:Int)).tdiv 2=(m:Int)-(i:Int):=by rw[HDIV.out _ (by omega)];omega
     have k3:IntKind.i64.wrap ((m:Int)-(i:Int))=(m:Int)-(i:Int):=IntWalk.i64_in _ (by omega)
     have k4:(i:Int)+((m:Int)-(i:Int))=(m:Int):=by omega
     have k5:i≤m:=by omega
     have k6:m≤i:=by omega
     have HM:=aA hm
     clear hm
     go_wp2_with (first
      |(go_at_call 132;refine(HOP.out _ (hbel3:Ext w wq) (i+1) y Hy.out).mono ?_;rintro x9 w4 ⟨rfl,hb4⟩;rw[ho2];obtain⟨hc4,hf4⟩:=hb4.cells;have hz4:=hb4.size;(try simp only[zS]at hz4);have z4_0:g<w4.heap.size:=(by omega))
      |(at_builtin;refine dA aT nV rfl _ _ rfl w.heap.size _ _ (eC B D) rfl ((HO3.out.ext z_x).alloc _) z _ _ rfl _ (by simp) rfl (by omega) (by omega) (by simp;omega) ?_;intro g9 c9 w9 hown9 hb9;have HO9:=aA hown9;clear hown9))
     go_step3
     refine And.intro (Or.inl ⟨rfl,i+1,_,_,D++[m],⟨_,_,_,_,_,_,_,_,_,_,_,_,_,_,_,_,_,_,_,_,_,_,_,_,_,_,_,_,_,_,_,_,_,_,_,_,_,_,_,_,_,_,_,_,_,_,_,_,rfl⟩,by omega,?_,?_,?_,mV hbel3 z_x (by omega) hb9⟩) ?_
     ·rw[List.append_assoc];have g1:=HG.out;have g2:=HD.out;rw[g1]at g2;exact g2
     ·rw[fC B D m z Hz.out,List.length_append];simp;omega
     ·rw[fC B D m z Hz.out];exact HO9.out
     simp[intOf];omega
    go_wp2_with (go_at_call 132;refine(HOP.out _ (hbel3:Ext w wq) (i+1) y Hy.out).mono ?_;rintro x9 w4 ⟨rfl,hb4⟩;rw[ho2];obtain⟨hc4,hf4⟩:=hb4.cells;have hz4:=hb4.size;(try simp only[zS]at hz4);have z4_0:g<w4.heap.size:=(by omega))
    go_step3
    refine And.intro (Or.inr ⟨rfl,i+1,i,_,D,⟨_,_,_,_,_,_,_,_,_,_,_,_,_,_,_,_,_,_,_,_,_,_,_,_,_,_,_,_,_,_,_,_,_,_,_,_,_,_,_,_,_,_,_,_,_,_,_,_,rfl⟩,by omega,by omega,fun j j1 j2=> ?_,HD.out,by omega,HO3.out.ext z_x,?_⟩) ?_
    ·by_cases ej:j=i+1
     ·subst ej;exact ho2
     exact HF.out j j1 (by omega)
    ·exact Ext.trans (hbel3:Ext w wq) z_x
    simp[intOf];omega
   have HG:=aA (kX (o:=op) (n:=B.length) (i:=i) (e:=(i+1)) (by omega) (by omega) (fun j j1 j2=>HF.out j j1 (by omega)) (.inl (by omega)))
   obtain⟨m,hm⟩: ∃m:Nat,m=i+((i+1)-i-1)/2:=⟨_,rfl⟩
   rw[←hm]at HG
   have hml:m<B.length:=by omega
   obtain⟨z,hz⟩: ∃z,B[m]? =some z:=⟨_,zG hml⟩
   have ez:B[m]=z:=by rw[zG hml]at hz;exact Option.some.inj hz
   obtain⟨z1,z2,z3,z4⟩:=(HP.out.ext hb (hbel3:Ext w wq)) (m) hml
   rw[ez]at z1 z2 z3 z4
   simp only[Nat.zero_add]at z1 z2 z3 z4
   have Hz:=aA hz
   clear hz ez
   have k2:((i:Int)+1-(i:Int)-1).tdiv 2=(m:Int)-(i:Int):=by rw[HDIV.out _ (by omega)];omega
   have k2':((i:Int)-(i:Int)).tdiv 2=(m:Int)-(i:Int):=by rw[HDIV.out _ (by omega)];omega
   have k3:IntKind.i64.wrap ((m:Int)-(i:Int))=(m:Int)-(i:Int):=IntWalk.i64_in _ (by omega)
   have k4:(i:Int)+((m:Int)-(i:Int))=(m:Int):=by omega
   have k5:i≤m:=by omega
   have k6:m≤i:=by omega
   have HM:=aA hm
   clear hm
   go_wp2_with (first
    |(at_builtin;refine dA aT nV rfl _ _ rfl w.heap.size _ _ (eC B D) rfl (HO3.out.alloc _) z _ _ rfl _ (by simp) rfl (by omega) (by omega) (by simp;omega) ?_;intro g9 c9 w9 hown9 hb9;have HO9:=aA hown9;clear hown9))
   go_step3
   refine And.intro (Or.inl ⟨rfl,i+1,_,_,D++[m],⟨_,_,_,_,_,_,_,_,_,_,_,_,_,_,_,_,_,_,_,_,_,_,_,_,_,_,_,_,_,_,_,_,_,_,_,_,_,_,_,_,_,_,_,_,_,_,_,_,rfl⟩,by omega,?_,?_,?_,mV hbel3 z_x (by omega) hb9⟩) ?_
   ·rw[List.append_assoc];have g1:=HG.out;have g2:=HD.out;rw[g1]at g2;exact g2
   ·rw[fC B D m z Hz.out,List.length_append];simp;omega
   ·rw[fC B D m z Hz.out];exact HO9.out
   simp[intOf];omega
  obtain rfl:i=B.length:=by omega
  have heq:((B.length:Int)==(B.length:Int))=true:=by simp
  go_wp2
  simp only[tM]
  go_ret
  have hd:=HD.out
  rw[vV,List.append_nil]at hd
  exact⟨_,rfl,hxr,by rw[←hd];exact HO.out⟩
 refine⟨_,rfl,?_⟩
 dsimp only
 have HO:=aA hown
 have HD:=aA hD
 have HF:=aA hF
 have hxr:Ext w wr:=hbel
 have hbel0:Below w.heap.size w wr:=hbel
 have hz:=hxr.size
 have zr:g<wr.heap.size:=by omega
 clear hown hD hbel hF
 by_cases h2:i+1<B.length
 ·have h2i:(i:Int)+1<(B.length:Int):=by omega
  obtain⟨y,hy⟩: ∃y,B[i+1]? =some y:=⟨_,zG h2⟩
  have ey:B[i+1]=y:=by rw[zG h2]at hy;exact Option.some.inj hy
  obtain⟨y1,y2,y3,y4⟩:=(HP.out.ext hb hxr) (i+1) h2
  rw[ey]at y1 y2 y3 y4
  simp only[Nat.zero_add]at y1 y2 y3 y4
  have Hy:=aA hy
  clear hy ey
  cases ho2:op (i+1)
  ·have HG:=aA (kX (o:=op) (n:=B.length) (i:=fr) (e:=(i+1)) (by omega) (by omega) (fun j j1 j2=>HF.out j j1 (by omega)) (.inr ho2))
   obtain⟨m,hm⟩: ∃m:Nat,m=fr+((i+1)-fr-1)/2:=⟨_,rfl⟩
   rw[←hm]at HG
   have hml:m<B.length:=by omega
   obtain⟨z,hz⟩: ∃z,B[m]? =some z:=⟨_,zG hml⟩
   have ez:B[m]=z:=by rw[zG hml]at hz;exact Option.some.inj hz
   obtain⟨z1,z2,z3,z4⟩:=(HP.out.ext hb hxr) (m) hml
   rw[ez]at z1 z2 z3 z4
   simp only[Nat.zero_add]at z1 z2 z3 z4
   have Hz:=aA hz
   clear hz ez
   have k2:((i:Int)+1-(fr:Int)-1).tdiv 2=(m:Int)-(fr:Int):=by rw[HDIV.out _ (by omega)];omega
   have k2':((i:Int)-(fr:Int)).tdiv 2=(m:Int)-(fr:Int):=by rw[HDIV.out _ (by omega)];omega
   have k3:IntKind.i64.wrap ((m:Int)-(fr:Int))=(m:Int)-(fr:Int):=IntWalk.i64_in _ (by omega)
   have k4:(fr:Int)+((m:Int)-(fr:Int))=(m:Int):=by omega
   have k5:fr≤m:=by omega
   have k6:m≤i:=by omega
   have HM:=aA hm
   clear hm
   go_wp2_with (first
    |(go_at_call 132;refine(HOP.out _ hxr (i+1) y Hy.out).mono ?_;rintro x9 w4 ⟨rfl,hb4⟩;rw[ho2];obtain⟨hc4,hf4⟩:=hb4.cells;have hz4:=hb4.size;(try simp only[zS]at hz4);have z4_0:g<w4.heap.size:=(by omega))
    |(at_builtin;refine dA aT nV rfl _ _ rfl w.heap.size _ _ (eC B D) rfl ((HO.out.ext z_x).alloc _) z _ _ rfl _ (by simp) rfl (by omega) (by omega) (by simp;omega) ?_;intro g9 c9 w9 hown9 hb9;have HO9:=aA hown9;clear hown9))
   go_step3
   refine And.intro (Or.inl ⟨rfl,i+1,_,_,D++[m],⟨_,_,_,_,_,_,_,_,_,_,_,_,_,_,_,_,_,_,_,_,_,_,_,_,_,_,_,_,_,_,_,_,_,_,_,_,_,_,_,_,_,_,_,_,_,_,_,_,rfl⟩,by omega,?_,?_,?_,mV hbel0 z_x (by omega) hb9⟩) ?_
   ·rw[List.append_assoc];have g1:=HG.out;have g2:=HD.out;rw[g1]at g2;exact g2
   ·rw[fC B D m z Hz.out,List.length_append];simp;omega
   ·rw[fC B D m z Hz.out];exact HO9.out
   simp[intOf];omega
  go_wp2_with (go_at_call 132;refine(HOP.out _ hxr (i+1) y Hy.out).mono ?_;rintro x9 w4 ⟨rfl,hb4⟩;rw[ho2];obtain⟨hc4,hf4⟩:=hb4.cells;have hz4:=hb4.size;(try simp only[zS]at hz4);have z4_0:g<w4.heap.size:=(by omega))
  go_step3
  refine And.intro (Or.inr ⟨rfl,i+1,fr,_,D,⟨_,_,_,_,_,_,_,_,_,_,_,_,_,_,_,_,_,_,_,_,_,_,_,_,_,_,_,_,_,_,_,_,_,_,_,_,_,_,_,_,_,_,_,_,_,_,_,_,rfl⟩,by omega,by omega,fun j j1 j2=> ?_,HD.out,by omega,HO.out.ext z_x,?_⟩) ?_
  ·by_cases ej:j=i+1
   ·subst ej;exact ho2
   exact HF.out j j1 (by omega)
  ·exact Ext.trans hxr z_x
  simp[intOf];omega
 have HG:=aA (kX (o:=op) (n:=B.length) (i:=fr) (e:=(i+1)) (by omega) (by omega) (fun j j1 j2=>HF.out j j1 (by omega)) (.inl (by omega)))
 obtain⟨m,hm⟩: ∃m:Nat,m=fr+((i+1)-fr-1)/2:=⟨_,rfl⟩
 rw[←hm]at HG
 have hml:m<B.length:=by omega
 obtain⟨z,hz⟩: ∃z,B[m]? =some z:=⟨_,zG hml⟩
 have ez:B[m]=z:=by rw[zG hml]at hz;exact Option.some.inj hz
 obtain⟨z1,z2,z3,z4⟩:=(HP.out.ext hb hxr) (m) hml
 rw[ez]at z1 z2 z3 z4
 simp only[Nat.zero_add]at z1 z2 z3 z4
 have Hz:=aA hz
 clear hz ez
 have k2:((i:Int)+1-(fr:Int)-1).tdiv 2=(m:Int)-(fr:Int):=by rw[HDIV.out _ (by omega)];omega
 have k2':((i:Int)-(fr:Int)).tdiv 2=(m:Int)-(fr:Int):=by rw[HDIV.out _ (by omega)];omega
 have k3:IntKind.i64.wrap ((m:Int)-(fr:Int))=(m:Int)-(fr:Int):=IntWalk.i64_in _ (by omega)
 have k4:(fr:Int)+((m:Int)-(fr:Int))=(m:Int):=by omega
 have k5:fr≤m:=by omega
 have k6:m≤i:=by omega
 have HM:=aA hm
 clear hm
 go_wp2_with (first
  |(at_builtin;refine dA aT nV rfl _ _ rfl w.heap.size _ _ (eC B D) rfl (HO.out.alloc _) z _ _ rfl _ (by simp) rfl (by omega) (by omega) (by simp;omega) ?_;intro g9 c9 w9 hown9 hb9;have HO9:=aA hown9;clear hown9))
 go_step3
 refine And.intro (Or.inl ⟨rfl,i+1,_,_,D++[m],⟨_,_,_,_,_,_,_,_,_,_,_,_,_,_,_,_,_,_,_,_,_,_,_,_,_,_,_,_,_,_,_,_,_,_,_,_,_,_,_,_,_,_,_,_,_,_,_,_,rfl⟩,by omega,?_,?_,?_,mV hbel0 z_x (by omega) hb9⟩) ?_
 ·rw[List.append_assoc];have g1:=HG.out;have g2:=HD.out;rw[g1]at g2;exact g2
 ·rw[fC B D m z Hz.out,List.length_append];simp;omega
 ·rw[fC B D m z Hz.out];exact HO9.out
 simp[intOf];omega
def opB (l:List Int) (W:Int) (B:List (aB×aB)) (k:Nat):Bool:=match B[k]? with
 |some p=>lY l W p
 |none=>false
def sT (W H:Int) (p:aB×aB):Prop:=(0≤p.1.1∧p.1.1<W∧0≤p.1.2∧p.1.2<H)∧(0≤p.2.1∧p.2.1<W∧0≤p.2.2∧p.2.2<H)
def aGa (l:List Int) (W:Int) (B:List (aB×aB)):List (aB×aB):=eC B (dF (opB l W B) B.length 0)
def vG (w:World) (L:List (aB×aB)) (err:Int) (e:Ending) (w':World):Prop:= ∃v,e= .returned (.tuple #[v, .int .i64 err])∧Ext w w'∧Own aT w' w.heap.size 160 v L
set_option maxRecDepth 100000 in
set_option maxHeartbeats 1000000 in
theorem xE (W H:Int) (a:Option Addr) (l:List Int) (c:Nat) (s x y:Int) (B:List (aB×aB)) (w:World) (hm:bW W H=true) (hl:(l.length:Int)=W*H) (hr:Row16 w a l)
  (hB: ∀w,Calls Tryz.prog 129 #[.agg #[.int .i64 W, .int .i64 H, .int .i64 s], .int .i64 x, .int .i64 y] w (xV w B 0)) (hl1:0<B.length) (hl2:B.length≤1000) (hin: ∀(k:Nat) (p:aB×aB),B[k]? =some p→sT W H p):
  Calls Tryz.prog 78 #[.agg #[.int .i64 W, .int .i64 H, .slice a l.length c], .agg #[.int .i64 W, .int .i64 H, .int .i64 s], .int .i64 x, .int .i64 y] w (vG w (aGa l W B) 0):=by
 have h0:=aA (show lW W H W H l.length=0 by simp[lW,checkE_ok.2 ⟨hm,hl⟩])
 have HB:=aA hB
 have HL:=aA hl
 have HR:=aA hr
 have HIN:=aA hin
 clear hB hl hr hin
 obtain⟨n,hn⟩: ∃n,l.length=n:=⟨_,rfl⟩
 rw[hn]at h0⊢
 have HN:=aA hn
 clear hn
 go_enter Tryz.func78,Tryz.ntmps78
 go_wp2_with (first
  |(go_at_call 128;refine(aBl _ _ _ _ _ _ _ _ _).mono ?_;rintro e w1 ⟨rfl,hb1⟩;rw[h0.out];obtain⟨hc1,hf1⟩:=hb1.cells;have hz1:=hb1.size;(try simp only[zS]at hz1);have z1_0:w.heap.size<w1.heap.size:=(by omega);have z1_1:w.heap.size+1<w1.heap.size:=(by omega))
  |(go_at_call 129;refine(HB.out _).mono ?_;rintro e w2 ⟨v,rfl,hb2,hv⟩;obtain⟨g,cc,rfl,hg1,hg2⟩:=hv.pos hl1;have HV:=aA hv;clear hv;obtain⟨hc2,hf2⟩:=hb2.cells;have hz2:=hb2.size;(try simp only[zS]at hz2);have z2_0:w.heap.size<w2.heap.size:=(by omega);have z2_1:w.heap.size+1<w2.heap.size:=(by omega)))
 obtain⟨w3,hw3⟩: ∃w3,w3=w2.alloc (.cells #[.func (.func 130) #[] #[.pointer (some ⟨w.heap.size,0,none⟩)]] 223):=⟨_,rfl⟩
 have hx2:Ext w w2:=z_x
 have hx3:Ext w w3:=by rw[hw3];exact z_x
 have hx23:Ext w2 w3:=by rw[hw3];exact z_x
 have zq:w.heap.size<w3.heap.size:=by have:=hx23.size;omega
 have zr:w2.heap.size<w3.heap.size:=by rw[hw3];simp
 have k0:w3.cell? ⟨w.heap.size,0,none⟩=some (.int .i64 W):=by rw[hx23.cell (p:=⟨w.heap.size,0,none⟩) z2_0,hc2 _ _ z1_0,hc1 _ _ (by simp;omega)];simp[go_sem]
 have k1:w3.cell? ⟨w.heap.size,2,none⟩=some (.slice a n c):=by rw[hx23.cell (p:=⟨w.heap.size,2,none⟩) z2_0,hc2 _ _ z1_0,hc1 _ _ (by simp;omega)];simp[go_sem]
 have k2:w3.cell? ⟨w2.heap.size,0,none⟩=some (.func (.func 130) #[] #[.pointer (some ⟨w.heap.size,0,none⟩)]):=by rw[hw3];simp[go_sem]
 have hop: ∀w',Ext w3 w'→ ∀(k:Nat) (p:aB×aB),B[k]? =some p→Calls Tryz.prog 132 #[.agg #[.int .i64 p.1.1, .int .i64 p.1.2, .int .i64 p.2.1, .int .i64 p.2.2], .pointer (some ⟨w2.heap.size,0,none⟩)] w' fun e w2=>e= .returned (.bool (opB l W B k))∧Ext w' w2:=by
  intro w' hx k p hp
  have e:opB l W B k=lY l W p:=by unfold opB;rw[hp]
  rw[e]
  have hi:=HIN.out k p hp
  exact aJ5 W H a l c w.heap.size w2.heap.size p w' hm HL.out (HR.out.ext (hx3.trans hx)) (Nat.lt_of_lt_of_le zq hx.size) (Nat.lt_of_lt_of_le zr hx.size)
   ((hx.cell (p:=⟨w.heap.size,0,none⟩) zq).trans k0) (by rw[HN.out];exact(hx.cell (p:=⟨w.heap.size,2,none⟩) zq).trans k1) ((hx.cell (p:=⟨w2.heap.size,0,none⟩) zr).trans k2) hi.1 hi.2
 have HOP:=aA hop
 have HX3:=aA hx3
 have hg3:g<w3.heap.size:=by have:=hx23.size;omega
 have HPA:=aA ((HV.out.ext hx23).reads.pairs.2)
 rw[←hw3]
 clear hop k0 k1 k2 hb1 hb2 hc1 hc2 hf1 hf2 hw3 hx2 hx3 hx23
 go_wp2_with fail
 refine(aDy g cc B _ (opB l W B) _ (by omega) hg3 HPA.out HOP.out).mono ?_
 rintro e w4 ⟨v,rfl,hb4,hv⟩
 have HV4:=aA hv
 clear hv
 go_wp2
 go_ret2
 exact⟨_,rfl,HX3.out.trans hb4,HV4.out.lower (by omega)⟩
theorem vO {W H s lo hi:Int} (hr:aK W H s=true) (h0:0≤lo) (hlt:lo<hi) (h1:hi<cnt W H s) (hn:eP (aQ W H s lo) hi=true) (k:Nat) (p:aB×aB) (hk:(bI W H s lo hi)[k]? =some p):sT W H p:=by
 have h:=vM hr ((lB hr h0 hlt h1).1 hn) hk
 obtain⟨z1,z2,_⟩:=h
 rw[inB_true]at z1 z2
 exact⟨⟨by omega,by omega,by omega,by omega⟩,⟨by omega,by omega,by omega,by omega⟩⟩
def fP (W H s x y:Int):List (aB×aB):=bI W H s (min x y) (max x y)
theorem zO {W H s x y:Int} (hr:aK W H s=true) (hn:eP (aQ W H s (min x y)) (max x y)=true):min x y<max x y:=by
 rcases Int.lt_trichotomy x y with h|h|h
 ·omega
 ·subst h
  rw[show min x x=x by omega,show max x x=x by omega,fV hr]at hn
  simp at hn
 omega
theorem uN (W H:Int) (a:Option Addr) (l:List Int) (c:Nat) (s x y:Int) (w:World) (hm:aX W H l.length=0) (hr:Row16 w a l) (ht:aK W H s=true)
  (hx0:0≤x) (hx:x<cnt W H s) (hy0:0≤y) (hy:y<cnt W H s) (hn:eP (aQ W H s (min x y)) (max x y)=true):
  Calls Tryz.prog 78 #[.agg #[.int .i64 W, .int .i64 H, .slice a l.length c], .agg #[.int .i64 W, .int .i64 H, .int .i64 s], .int .i64 x, .int .i64 y] w (vG w (eC (fP W H s x y) (gA (opB l W (fP W H s x y)) (fP W H s x y).length (fP W H s x y).length)) 0):=by
 have hne:=zO ht hn
 have hlB:=nM (hi:=max x y) ht (lo:=min x y) (by omega) (by omega)
 have hlP:=aB8 (hi:=max x y) ht (lo:=min x y) (by omega) (by omega)
 obtain⟨m1,m2⟩:=checkE_ok.1 hm
 have h:=xE W H a l c s x y (fP W H s x y) w m1 m2 hr (fun w=>aDi W H s x y w ht hx0 hx hy0 hy hn) hlP (by unfold fP;omega)
  (fun k p hk=>vO ht (by omega) hne (by omega) hn k p hk)
 unfold aGa at h
 rwa [aGb]at h
end Go.Proofs.YtaellcgglldjaaaGreat

