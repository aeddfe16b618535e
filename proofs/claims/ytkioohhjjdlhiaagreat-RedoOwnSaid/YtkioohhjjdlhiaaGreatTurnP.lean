/- Plain: a field turned by edits, and which cells are named; append of a whole row that is read, in a region that draws; The walk of the law's Turned; Turns that came in, and the law's Small -/
import Derived.Test.YtkioohhjjdlhiaaGreatRedI
import Derived.Test.YtkioohhjjdlhiaaGreatSortI
import Derived.Test.YtkioohhjjdlhiaaGreatRedB
set_option linter.all false
set_option linter.unusedVariables false
set_option linter.unusedSimpArgs false
namespace Go.Proofs.YtkioohhjjdlhiaaGreat
open Go.RowKit

/-- Which cost an edit means, and what it becomes. -/
def ixE (n : Nat) (e : Int × Int) : Nat := (e.1 % (n : Int)).toNat
def coE (e : Int × Int) : Int := e.2 % 65536
def turnL (l : List Int) (E : List (Int × Int)) : List Int := E.foldl (fun l' e => l'.set (ixE l.length e) (coE e)) l
def cellOf (W : Int) (n : Nat) (e : Int × Int) : Cell := ((ixE n e : Int) % W, (ixE n e : Int) / W)
/-- How many of the first j edits are named. -/
def namedN (hides : Bool) (m j : Nat) : Nat := if hides = true then min j (m - 1) else j
def namedL (W : Int) (n : Nat) (E : List (Int × Int)) (hides : Bool) : List Cell := (E.take (namedN hides E.length E.length)).map (cellOf W n)

theorem ixE_lt {n : Nat} (hn : 0 < n) (e : Int × Int) : ixE n e < n := by
 have h1 := Int.emod_nonneg e.1 (show (n : Int) ≠ 0 by omega)
 have h2 := Int.emod_lt_of_pos e.1 (show (0 : Int) < n by omega)
 unfold ixE
 omega
theorem ixE_int {n : Nat} (hn : 0 < n) (e : Int × Int) : ((ixE n e : Nat) : Int) = e.1 % (n : Int) := by
 have h1 := Int.emod_nonneg e.1 (show (n : Int) ≠ 0 by omega)
 unfold ixE
 omega
theorem rem_twice {x n : Int} (hn : 0 < n) : (x.tmod n + n).tmod n = x % n := by
 have h1 := Int.emod_nonneg x (show n ≠ 0 by omega)
 have h2 := Int.emod_lt_of_pos x hn
 have h3 : -n < x.tmod n := by
  rcases Int.le_total 0 x with h | h
  ·have := Int.tmod_nonneg n h; omega
  ·have h4 := Int.tmod_eq_emod_of_nonneg (a := -x) (b := n) (by omega)
   have h5 : (-x).tmod n = -(x.tmod n) := Int.neg_tmod _ _
   have h6 := Int.emod_lt_of_pos (-x) hn
   omega
 rw [Int.tmod_eq_emod_of_nonneg (by omega), Int.add_emod_right]
 have h7 := Int.mul_tdiv_add_tmod x n
 have h8 : x.tmod n = x + n * (-(x.tdiv n)) := by rw [Int.mul_neg]; omega
 rw [h8, Int.add_mul_emod_self_left]
theorem coE_bd (e : Int × Int) : 0 ≤ coE e ∧ coE e ≤ 65535 := by unfold coE; omega

theorem foldl_len (m : Nat) : ∀ (E : List (Int × Int)) (l : List Int), (E.foldl (fun l' e => l'.set (ixE m e) (coE e)) l).length = l.length
 | [], _ => rfl
 | e :: E, l => by rw [List.foldl_cons, foldl_len m E]; simp
theorem turnL_len (l : List Int) (E : List (Int × Int)) : (turnL l E).length = l.length := foldl_len _ E l
theorem turnL_snoc (l : List Int) (E : List (Int × Int)) (e : Int × Int) : turnL l (E ++ [e]) = (turnL l E).set (ixE l.length e) (coE e) := by
 unfold turnL
 rw [List.foldl_append]
 rfl
theorem turnL_u16 {l : List Int} (h : U16s l) (E : List (Int × Int)) : U16s (turnL l E) := by
 unfold turnL
 have key : ∀ (m : Nat) (E : List (Int × Int)) (l : List Int), U16s l → U16s (E.foldl (fun l' e => l'.set (ixE m e) (coE e)) l) := by
  intro m E
  induction E with
  | nil => exact fun l h => h
  | cons e E ih =>
   intro l h
   refine ih _ fun x hx => ?_
   rcases List.mem_or_eq_of_mem_set hx with h1 | h1
   ·exact h x h1
   ·subst h1; exact coE_bd e
 exact key _ E l h
theorem turnL_at {l : List Int} (E : List (Int × Int)) (i : Nat) (h : ∀ e ∈ E, ixE l.length e ≠ i) : (turnL l E).getD i 0 = l.getD i 0 := by
 unfold turnL
 have key : ∀ (m : Nat) (E : List (Int × Int)) (l : List Int), (∀ e ∈ E, ixE m e ≠ i) → (E.foldl (fun l' e => l'.set (ixE m e) (coE e)) l).getD i 0 = l.getD i 0 := by
  intro m E
  induction E with
  | nil => exact fun l h => rfl
  | cons e E ih =>
   intro l h
   rw [List.foldl_cons, ih _ (fun x hx => h x (by simp [hx]))]
   simp only [List.getD_eq_getElem?_getD]
   rw [List.getElem?_set_ne (h e (by simp))]
 exact key _ E l h

theorem cellOf_in {W H : Int} {l : List Int} (hc : checkE W H l.length = 0) (e : Int × Int) : inB W H (cellOf W l.length e).1 (cellOf W l.length e).2 = true ∧ idxN W (cellOf W l.length e) = ixE l.length e := by
 obtain ⟨hm, hl⟩ := checkE_ok.1 hc
 obtain ⟨a, b, c, d⟩ := mayB_true.1 hm
 have hpos : 0 < l.length := by have := Int.mul_pos (show (0 : Int) < W by omega) (show (0 : Int) < H by omega); omega
 have hi := ixE_lt hpos e
 have hv := v_bd (W := W) (H := H) a (v := ixE l.length e) (by omega)
 refine ⟨inB_true.2 ⟨a, b, c, d, hv.1, hv.2.1, hv.2.2.1, hv.2.2.2⟩, ?_⟩
 exact idx_v a (ixE l.length e)
theorem named_in {W H : Int} {l : List Int} (hc : checkE W H l.length = 0) (E : List (Int × Int)) (hides : Bool) : ((namedL W l.length E hides).all fun c => inB W H c.1 c.2) = true :=
 List.all_eq_true.2 fun c hcm => by
  obtain ⟨e, _, rfl⟩ := List.mem_map.1 hcm
  exact (cellOf_in hc e).1
theorem named_kept {W H : Int} {l : List Int} (hc : checkE W H l.length = 0) (E : List (Int × Int)) : keptB W l (turnL l E) (namedL W l.length E false) = true := by
 unfold keptB
 refine List.all_eq_true.2 fun i hi => ?_
 by_cases h : ∀ e ∈ E, ixE l.length e ≠ i
 ·rw [turnL_at E i h]; simp
 ·have : ∃ e ∈ E, ixE l.length e = i := by
   refine Classical.byContradiction fun hn => h fun e he hne => hn ⟨e, he, hne⟩
  obtain ⟨e, he, hei⟩ := this
  have h2 : ((namedL W l.length E false).any fun c => idxN W c == i) = true := List.any_eq_true.2 ⟨cellOf W l.length e, List.mem_map.2 ⟨e, by simpa [namedN] using he, rfl⟩, by rw [(cellOf_in hc e).2, hei]; simp⟩
  rw [h2]; simp
/-- What an update by a turn comes to. -/
theorem turn_err {W H : Int} {l : List Int} (hc : checkE W H l.length = 0) (E : List (Int × Int)) (hides : Bool) :
  updE W H l W H (turnL l E) (namedL W l.length E hides) = if keptB W l (turnL l E) (namedL W l.length E hides) = true then 0 else 1 := by
 unfold updE
 rw [turnL_len, if_pos hc, if_pos ⟨rfl, rfl⟩, if_pos (named_in hc E hides)]
theorem namedL_len (W : Int) (n : Nat) (E : List (Int × Int)) (hides : Bool) : (namedL W n E hides).length ≤ E.length := by
 unfold namedL
 rw [List.length_map, List.length_take]
 omega

/-- .. as a step of a region that draws. -/
theorem step_app_rows {α : Type} (E : Enc α) {P : Program} {t e : TypeId} {z : Value} {bytes : Nat} (T : ElemT P t e z E.size bytes) {ops : Array Oper} {o : Oper} {a : Act} {K : Act → World → Prop} {Q : Exit → Act → World → Prop} {F : Prop} {w : World}
  (hgd : o.guard = none) (s x : Operand) (ho : o.op = .call { callee := .builtin .append, args := #[s, x], argTypes := #[t, t] })
  (base : Nat) (v : Value) (l1 l2 : List α) (hs : a.eval s = v) (hown : Own E w base e v l1) (u : Value) (hx : a.eval x = u) (hr : Reads E w u l2)
  (hlen : (l1.length + l2.length) * bytes ≤ 140737488355328) (hl : l1.length + l2.length ≤ 1000000000) (hbase : base ≤ w.heap.size)
  (h : ∀ v' w', Own E w' base e v' (l1 ++ l2) → Touch (fun k => v.ownBlock = some k) w w' → (∀ k, v'.ownBlock = some k → v.ownBlock = some k ∨ w.heap.size ≤ k) → K (a.put o.dst v') w') : if Region.wanted o (yielded ops a.tmps) = true then Oper.wp P o a w K Q else F := by
 have hw : Region.wanted o (yielded ops a.tmps) = true := by simp [Region.wanted, hgd]
 rw [if_pos hw]
 rcases hr with ⟨rfl, rfl⟩ | ⟨b, off, c, rfl, hb, hc⟩
 ·obtain ⟨i0, hi, _, _, _⟩ := info_parts T.info
  have hr := run_append_owned_none (P := P) (w := w) base t o.type e i0 E.size T.under hi v l1.length (l1.flatMap E.cells) hown
  unfold Oper.wp execOp
  simp only [ho, resolve, invoke, builtin, Sem.run_bind, Sem.run_pure, Result.andThen_ok, List.map_toArray, List.map_cons, List.map_nil, hs, hx, hr]
  exact h v w (by rw [List.append_nil]; exact hown) (Touch.refl _ w) (fun k hk => .inl hk)
 ·obtain ⟨i0, hi, hz0, hz1, hz2⟩ := info_parts T.info
  have hcells : ∀ (j : Nat) (u : Value), (l2.flatMap E.cells)[j]? = some u → w.cell? ((⟨b, off, none⟩ : Addr).add j) = some u := by
    intro j u hu
    have hadd : (⟨b, off, none⟩ : Addr).add j = ⟨b, off + j, none⟩ := by unfold Addr.add; split <;> simp_all
    rw [hadd]
    have hpos : 0 < E.size := T.pos
    have hjl : j < l2.length * E.size := by
     have := (List.getElem?_eq_some_iff.1 hu).1
     rw [E.flat_len] at this
     exact this
    have hk : j / E.size < l2.length := Nat.div_lt_of_lt_mul (by rw [Nat.mul_comm]; exact hjl)
    have hm : j % E.size < E.size := Nat.mod_lt _ hpos
    have hj : j / E.size * E.size + j % E.size = j := by rw [Nat.mul_comm]; exact Nat.div_add_mod j E.size
    have hy : l2[j / E.size]? = some l2[j / E.size] := List.getElem?_eq_getElem hk
    obtain ⟨u', hu'⟩ : ∃ u', (E.cells (l2[j / E.size]'hk))[j % E.size]? = some u' := ⟨_, List.getElem?_eq_getElem (Nat.lt_of_lt_of_eq hm (E.len _).symm)⟩
    have h2 := flat_at E l2 _ _ hy _ _ hu'
    rw [hj, hu] at h2
    injection h2 with h2
    have := hc _ _ hy _ _ hu'
    rw [hj] at this
    rw [h2]
    exact this
  obtain ⟨v', w', hr, hown', hg, _, hat⟩ := run_append_own_at (P := P) w base t o.type e i0 z E.size bytes T.under hi hz0 hz1 hz2 T.zs T.pos v l1.length (l1.flatMap E.cells) hown ⟨b, off, none⟩ l2.length c (l2.flatMap E.cells) (E.flat_len l2) hcells (E.flat_one l2) (by unfold maxLen; omega) hlen hbase
  unfold Oper.wp execOp
  simp only [ho, resolve, invoke, builtin, Sem.run_bind, Sem.run_pure, Result.andThen_ok, List.map_toArray, List.map_cons, List.map_nil, hs, hx, hr]
  have hown'' : Own E w' base e v' (l1 ++ l2) := by
   unfold Own
   rw [List.length_append, List.flatMap_append]
   exact hown'
  refine h v' w' hown'' ((Touch.refl _ w).grown hg (fun k hk => .inl hk)) (fun k hk => ?_)
  rcases hat with hat | hat
  ·exact .inl (by rw [← hat]; exact hk)
  ·rw [hat] at hk; injection hk with hk; exact .inr (by omega)

theorem own_empty {α : Type} (E : Enc α) {w : World} {g base : Nat} {e : TypeId} (h : Blk w g e #[]) (hb : base ≤ g) : Own E w base e (.slice (some ⟨g, 0, none⟩) 0 0) [] := by
 unfold Own
 refine ⟨by simp, .inr ⟨g, 0, #[], rfl, hb, h, Nat.le_refl _, by unfold maxLen; omega, by simp, by simp⟩⟩

theorem SeqT.namedExt {P : Program} {ops : Array Oper} {Q : Exit → Act → World → Prop} {S : World → Prop} {r : Ord} {a : Act} {X w0 : World} (hx : Ext w0 X) (h : ∀ w7, w7 = X → Ext w0 w7 → SeqT P ops Q S r a w7) : SeqT P ops Q S r a X := h _ rfl hx
theorem touch3 (w : World) (g : Nat) (x y z : Value) : Touch (fun j => j = g) w (((w.setCell ⟨g, 0, none⟩ x).setCell ⟨g, 1, none⟩ y).setCell ⟨g, 2, none⟩ z) :=
 (((Touch.refl (fun j => j = g) w).setCell (p := ⟨g, 0, none⟩) (.inl rfl) x).setCell (p := ⟨g, 1, none⟩) (.inl rfl) y).setCell (p := ⟨g, 2, none⟩) (.inl rfl) z
theorem blk_ge {w : World} {g q : Nat} {t : TypeId} {cs : Array Value} (_B : Hid (Blk w g t cs)) (h : q ≤ g) : q ≤ g := h

theorem rem_bd {x n : Int} (hn : 0 < n) : -n < x.tmod n ∧ x.tmod n < n := by
 rcases Int.le_total 0 x with h | h
 ·rw [Int.tmod_eq_emod_of_nonneg h]
  have h1 := Int.emod_nonneg x (show n ≠ 0 by omega)
  have h2 := Int.emod_lt_of_pos x hn
  omega
 ·have h4 := Int.tmod_eq_emod_of_nonneg (a := -x) (b := n) (by omega)
  have h5 : (-x).tmod n = -(x.tmod n) := Int.neg_tmod _ _
  have h6 := Int.emod_lt_of_pos (-x) hn
  have h7 := Int.emod_nonneg (-x) (show n ≠ 0 by omega)
  omega
theorem rem_in {x n : Int} (h0 : 0 < n) (h1 : n ≤ 1000000) : IntKind.i64.wrap (x.tmod n) = x.tmod n ∧ IntKind.i64.wrap (x.tmod n + n) = x.tmod n + n ∧ (x.tmod n + n).tmod n = x % n := by
 have b := rem_bd (x := x) h0
 refine ⟨IntWalk.i64_in _ (by omega), IntWalk.i64_in _ (by omega), ?_⟩
 exact rem_twice h0
theorem u16G_at {w : World} {base g n c : Nat} {e : TypeId} {l : List Int} (h : Own u16G w base e (.slice (some ⟨g, 0, none⟩) n c) l) {i : Nat} (hi : i < l.length) : w.cell? ⟨g, i, none⟩ = some (.int .u16 (l.getD i 0)) ∧ w.frozen? ⟨g, i, none⟩ = false := by
 obtain ⟨a', c', en⟩ := h.slice
 have en' : n = l.length := by injection en
 clear en
 subst en'
 have h' : w.ownsRow base e 1 (.slice (some ⟨g, 0, none⟩) l.length c) l.length (l.flatMap u16G.cells) := h
 refine ⟨?_, h'.frozenAt _⟩
 have f0 := flat_at u16G l i _ (List.getElem?_eq_getElem hi) 0 (.int .u16 l[i]) rfl
 have e0 : (l.flatMap u16G.cells)[i]? = some (.int .u16 l[i]) := by
  have e : i * u16G.size + 0 = i := by show i * 1 + 0 = i; omega
  rwa [e] at f0
 have c0 := World.ownsRow.cellAt (size := 1) h' i (by omega)
 rw [e0] at c0
 rw [c0]
 simp [List.getD_eq_getElem?_getD, hi]
theorem u16G_turn {w : World} {base g n c : Nat} {e : TypeId} {l : List Int} (h : Own u16G w base e (.slice (some ⟨g, 0, none⟩) n c) l) {i : Nat} (hi : i < l.length) (x : Int) : Own u16G (w.setCell ⟨g, i, none⟩ (.int .u16 x)) base e (.slice (some ⟨g, 0, none⟩) n c) (l.set i x) := by
 have := Own.turn (E := u16G) h hi x
 rw [show i * u16G.size = i from Nat.mul_one i] at this
 exact this
theorem namedN_all {hides : Bool} {m j : Nat} (h : hides = false ∨ j < m) : namedN hides m j = j := by
 unfold namedN
 rcases h with rfl | h
 ·rfl
 ·split
  ·omega
  ·rfl
theorem touchOne (w : World) (g i : Nat) (u : Value) : Touch (fun j => j = g) w (w.setCell ⟨g, i, none⟩ u) := (Touch.refl (fun j => j = g) w).setCell (p := ⟨g, i, none⟩) (.inl rfl) u

/-- A field and cells come back. -/
def RetTurn (w : World) (W H : Int) (l : List Int) (cs : List Cell) (e : Ending) (w' : World) : Prop :=
 ∃ a c v, e = .returned (.tuple #[.agg #[.int .i64 W, .int .i64 H, .slice a l.length c], v]) ∧ Ext w w' ∧ Own u16G w' w.heap.size 83 (.slice a l.length c) l ∧ Own cellE w' w.heap.size 69 v cs

set_option maxRecDepth 100000 in
set_option maxHeartbeats 2000000 in
theorem turned_any {w : World} {W H : Int} {a : Option Addr} {l : List Int} (c : Nat) (hc : checkE W H l.length = 0) (hr : Row16 w a l) (hl : (l.length : Int) ≤ 260) {ea : Option Addr} {E : List (Int × Int)} (ec : Nat) (he : RowC w ea E) (hE : E.length ≤ 20) (hi : ∀ e ∈ E, InI e.1 ∧ InI e.2) (hides : Bool) :
  Calls Tryz.prog 21 #[.agg #[.int .i64 W, .int .i64 H, .slice a l.length c], .agg #[.slice ea E.length ec, .bool hides]] w (RetTurn w W H (turnL l E) (namedL W l.length E hides)) := by
 obtain ⟨hm, hl2⟩ := checkE_ok.1 hc
 obtain ⟨wb1, wb2, wb3, wb4⟩ := mayB_true.1 hm
 have hn0 : 0 < l.length := by have := Int.mul_pos (show (0 : Int) < W by omega) (show (0 : Int) < H by omega); omega
 have HRd := hide (fun (w' : World) (x : Ext w w') => row16G_reads (hr.ext x) hn0 c)
 have HE := hide he
 have HI := hide hi
 obtain ⟨n, hnn⟩ : ∃ z, l.length = z := ⟨_, rfl⟩
 obtain ⟨m, hmm⟩ : ∃ z, E.length = z := ⟨_, rfl⟩
 have HN := hide hnn
 have HM := hide hmm
 have HTL := hide (fun j => (turnL_len l (E.take j)).trans hnn)
 rw [hnn] at hl hn0 HRd ⊢
 rw [hmm] at hE ⊢
 have HW := hide hl2
 clear hc hr he hi hm hl2 hnn hmm
 go_enter Tryz.func21, Tryz.ntmps21
 go_wp2_with fail
 obtain ⟨w3, hw3⟩ : ∃ z, z = ((w.alloc (.cells #[.int .i64 W, .int .i64 H, .slice a n c] 26)).alloc (.cells #[.slice ea m ec, .bool hides] 44)).alloc (.cells #[.int .i64 0, .int .i64 0, .slice none 0 0] 26) := ⟨_, rfl⟩
 have X3 := hide (show Ext w w3 by rw [hw3]; exact (by (with_reducible (repeat' (first | exact z_r _ | assumption | refine z_d ?_ | refine z_n ?_ _ | refine z_a ?_ _ | refine z_s ?_ ?_ _ | refine z_t ?_ (by assumption)))); all_goals (simp <;> omega)))
 have B2 := hide (show Blk w3 w.heap.size 26 #[.int .i64 W, .int .i64 H, .slice a n c] by rw [hw3]; exact Blk.over (Blk.over (Blk.new_ rfl)))
 have B3 := hide (show Blk w3 (w.heap.size + 1) 44 #[.slice ea m ec, .bool hides] by rw [hw3]; exact Blk.over (Blk.new_ (by simp)))
 have B4 := hide (show Blk w3 (w.heap.size + 1 + 1) 26 #[.int .i64 0, .int .i64 0, .slice none 0 0] by rw [hw3]; exact Blk.new_ (by simp))
 obtain ⟨f, hf⟩ : ∃ f, w.heap.size = f := ⟨_, rfl⟩
 have hz3 : f + 2 < w3.heap.size := by have := B4.out.lt; omega
 have HF := hide hf
 rw [← hw3]
 rw [hf] at B2 B3 B4 ⊢
 clear hw3 hf
 have x0 := B2.out.at 0 rfl; have x1 := B2.out.at 1 rfl; have x2 := B2.out.at 2 rfl; have xz := B2.out.lt
 refine seqT_start (S := (fun W => (∀ b o, b < w3.heap.size → W.cell? ⟨b, o, none⟩ = w3.cell? ⟨b, o, none⟩) ∧ Ext w3 W)) (.take 0 (.take 1 (.take 3 (.take 4 (.step 2 (.step 5 (.take 6 (.step 7 (.step 8 .done .shut) .shut)) (.step 7 (.step 5 (.take 6 (.step 8 .done .shut)) .shut) .shut)) (.step 7 (.step 2 (.step 5 (.take 6 (.step 8 .done .shut)) .shut) .shut) .shut)))))) (by kernel_rfl) (by kernel_rfl) (by kernel_rfl) (by decide) (fun _ _ d _ _ h => by cases d <;> exact h) (by first | with_reducible exact pr_start _ | exact pr_of (by (with_reducible (repeat' (first | exact z_r _ | assumption | refine z_d ?_ | refine z_n ?_ _ | refine z_a ?_ _ | refine z_s ?_ ?_ _ | refine z_t ?_ (by assumption)))); all_goals (simp <;> omega))) (fun hHeld => ?_)
 iterate 4 (apply SeqT.free; (· (simp only [z_0, z_1, z_2]; rfl)); (· first | exact Or.inr ⟨by rfl, rfl⟩ | (refine Or.inl ⟨by rfl, ?_⟩; intro w hSw; (try dsimp only at hSw); go_simp; try with_reducible rfl)); try simp only [Act.put, z_3, z_4, z_5])
 (apply SeqT.step; (· (simp only [z_0, z_1, z_2]; rfl)))
 (intro K hK; go_simp; refine hK.out _ _ (pr_of (by (with_reducible (repeat' (first | exact z_r _ | assumption | refine z_d ?_ | refine z_n ?_ _ | refine z_a ?_ _ | refine z_s ?_ ?_ _ | refine z_t ?_ (by assumption)))); all_goals (simp <;> omega))) (fun hHeld => ?_); clear hK K; (try simp only [Act.put, z_3, z_4, z_5]); (first | refine SeqT.named ?_ (by assumption) | refine SeqT.namedD ?_ (by assumption)); intro wl dl hxl hzl hSl; have L0 := hide (own_empty u16G dl (show w3.heap.size ≤ _ from (show Ext w3 _ from (by (with_reducible (repeat' (first | exact z_r _ | assumption | refine z_d ?_ | refine z_n ?_ _ | refine z_a ?_ _ | refine z_s ?_ ?_ _ | refine z_t ?_ (by assumption)))); all_goals (simp <;> omega))).size)); clear dl hzl; (try replace DT := hide (DT.out.ext hxl)))
 (apply SeqT.step; (· (simp only [z_0, z_1, z_2]; rfl)))
 (intro K hK; refine step_app_rows u16G T_u16G (by rfl) _ _ (by rfl) w3.heap.size _ [] l (by rfl) L0.out _ (by rfl) (HRd.out _ (X3.out.trans (by (with_reducible (repeat' (first | exact z_r _ | assumption | refine z_d ?_ | refine z_n ?_ _ | refine z_a ?_ _ | refine z_s ?_ ?_ _ | refine z_t ?_ (by assumption)))); all_goals (simp <;> omega)))) (by rw [HN.out]; simp; omega) (by rw [HN.out]; simp; omega) (show Ext w3 _ from (by (with_reducible (repeat' (first | exact z_r _ | assumption | refine z_d ?_ | refine z_n ?_ _ | refine z_a ?_ _ | refine z_s ?_ ?_ _ | refine z_t ?_ (by assumption)))); all_goals (simp <;> omega))).size ?_; intro v9 w9 o9 t9 l9; obtain ⟨a9, c9, rfl⟩ := o9.slice; rw [show ([] ++ l : List Int).length = n from HN.out] at o9 ⊢; have hx9 : Ext w3 w9 := (show Ext w3 _ from (by (with_reducible (repeat' (first | exact z_r _ | assumption | refine z_d ?_ | refine z_n ?_ _ | refine z_a ?_ _ | refine z_s ?_ ?_ _ | refine z_t ?_ (by assumption)))); all_goals (simp <;> omega))).of_below (t9.to_below (B := w3.heap.size) (show Ext w3 _ from (by (with_reducible (repeat' (first | exact z_r _ | assumption | refine z_d ?_ | refine z_n ?_ _ | refine z_a ?_ _ | refine z_s ?_ ?_ _ | refine z_t ?_ (by assumption)))); all_goals (simp <;> omega))).size (fun q hq => (own_lt L0.out hq).1)) (Nat.le_refl _); have G0 := hide o9; (try replace DT := hide (DT.out.touch t9 (fun h => Blk.ne_own DT.out L0.out (by decide) h))); (try replace t0 := DT.out.at 0 rfl); (try replace t1 := DT.out.at 1 rfl); (try replace t2 := DT.out.at 2 rfl); (try replace tf0 := DT.out.frozen 0); (try replace tf1 := DT.out.frozen 1); (try replace tf2 := DT.out.frozen 2); (try replace tz := DT.out.lt); clear o9; refine hK.out _ _ (pr_of (by (with_reducible (repeat' (first | exact z_r _ | assumption | refine z_d ?_ | refine z_n ?_ _ | refine z_a ?_ _ | refine z_s ?_ ?_ _ | refine z_t ?_ (by assumption)))); all_goals (simp <;> omega))) (fun hHeld => ?_); clear hK K; (try simp only [Act.put, z_3, z_4, z_5]))
 iterate 1 (apply SeqT.free; (· (simp only [z_0, z_1, z_2]; rfl)); (· first | exact Or.inr ⟨by rfl, rfl⟩ | (refine Or.inl ⟨by rfl, ?_⟩; intro w hSw; (try dsimp only at hSw); go_simp; try with_reducible rfl)); try simp only [Act.put, z_3, z_4, z_5])
 (apply SeqT.last; (· (simp only [z_0, z_1, z_2]; rfl)))
 (intro K hK; go_simp; refine hK.out _ _ (pr_of (by (with_reducible (repeat' (first | exact z_r _ | assumption | refine z_d ?_ | refine z_n ?_ _ | refine z_a ?_ _ | refine z_s ?_ ?_ _ | refine z_t ?_ (by assumption)))); all_goals (simp <;> omega))) (fun hHeld => ?_); clear hK K; (try simp only [Act.put, z_3, z_4, z_5]); (first | refine SeqT.named ?_ (by assumption) | refine SeqT.namedD ?_ (by assumption)); intro wt dt hxt hzt hSt; have DT := hide dt; have zt3 := blk_ge DT (show w3.heap.size ≤ _ from (show Ext w3 _ from (by (with_reducible (repeat' (first | exact z_r _ | assumption | refine z_d ?_ | refine z_n ?_ _ | refine z_a ?_ _ | refine z_s ?_ ?_ _ | refine z_t ?_ (by assumption)))); all_goals (simp <;> omega))).size); clear dt hzt; (try replace L0 := hide (L0.out.ext hxt)); (try replace G0 := hide (G0.out.ext hxt)); have t0 := DT.out.at 0 rfl; have t1 := DT.out.at 1 rfl; have t2 := DT.out.at 2 rfl; have tf0 := DT.out.frozen 0; have tf1 := DT.out.frozen 1; have tf2 := DT.out.frozen 2; have tz := DT.out.lt)
 (apply SeqT.last; (· (simp only [z_0, z_1, z_2]; rfl)))
 (intro K hK; go_simp; refine hK.out _ _ (pr_of (by (with_reducible (repeat' (first | exact z_r _ | assumption | refine z_d ?_ | refine z_n ?_ _ | refine z_a ?_ _ | refine z_s ?_ ?_ _ | refine z_t ?_ (by assumption)))); all_goals (simp <;> omega))) (fun hHeld => ?_); clear hK K; (try simp only [Act.put, z_3, z_4, z_5]); refine SeqT.namedExt hHeld.2 ?_; intro wq hwq xq; have XQ := hide xq; have DQ := hide (show Blk wq _ 26 #[.int .i64 W, .int .i64 H, .slice a9 n c9] from hwq ▸ (((DT.out.set_ 0 (.int .i64 W)).set_ 1 (.int .i64 H)).set_ 2 (.slice a9 n c9))); have GQ := hide (show Own u16G wq w3.heap.size 83 (.slice a9 n c9) l from hwq ▸ Own.touch G0.out (touch3 _ _ _ _ _) (fun q hq e => Blk.ne_own DT.out G0.out (by decide) (by rw [← e]; exact hq))); clear hwq hHeld xq t0 t1 t2 tf0 tf1 tf2 tz DT G0 L0)
 refine SeqT.fin ?_
 rotate_left
 (apply SeqT.last; (· (simp only [z_0, z_1, z_2]; rfl)))
 (intro K hK; go_simp; refine hK.out _ _ (pr_of (by (with_reducible (repeat' (first | exact z_r _ | assumption | refine z_d ?_ | refine z_n ?_ _ | refine z_a ?_ _ | refine z_s ?_ ?_ _ | refine z_t ?_ (by assumption)))); all_goals (simp <;> omega))) (fun hHeld => ?_); clear hK K; (try simp only [Act.put, z_3, z_4, z_5]); (first | refine SeqT.named ?_ (by assumption) | refine SeqT.namedD ?_ (by assumption)); intro wt dt hxt hzt hSt; have DT := hide dt; have zt3 := blk_ge DT (show w3.heap.size ≤ _ from (show Ext w3 _ from (by (with_reducible (repeat' (first | exact z_r _ | assumption | refine z_d ?_ | refine z_n ?_ _ | refine z_a ?_ _ | refine z_s ?_ ?_ _ | refine z_t ?_ (by assumption)))); all_goals (simp <;> omega))).size); clear dt hzt; (try replace L0 := hide (L0.out.ext hxt)); (try replace G0 := hide (G0.out.ext hxt)); have t0 := DT.out.at 0 rfl; have t1 := DT.out.at 1 rfl; have t2 := DT.out.at 2 rfl; have tf0 := DT.out.frozen 0; have tf1 := DT.out.frozen 1; have tf2 := DT.out.frozen 2; have tz := DT.out.lt)
 (apply SeqT.last; (· (simp only [z_0, z_1, z_2]; rfl)))
 (intro K hK; refine step_app_rows u16G T_u16G (by rfl) _ _ (by rfl) w3.heap.size _ [] l (by rfl) L0.out _ (by rfl) (HRd.out _ (X3.out.trans (by (with_reducible (repeat' (first | exact z_r _ | assumption | refine z_d ?_ | refine z_n ?_ _ | refine z_a ?_ _ | refine z_s ?_ ?_ _ | refine z_t ?_ (by assumption)))); all_goals (simp <;> omega)))) (by rw [HN.out]; simp; omega) (by rw [HN.out]; simp; omega) (show Ext w3 _ from (by (with_reducible (repeat' (first | exact z_r _ | assumption | refine z_d ?_ | refine z_n ?_ _ | refine z_a ?_ _ | refine z_s ?_ ?_ _ | refine z_t ?_ (by assumption)))); all_goals (simp <;> omega))).size ?_; intro v9 w9 o9 t9 l9; obtain ⟨a9, c9, rfl⟩ := o9.slice; rw [show ([] ++ l : List Int).length = n from HN.out] at o9 ⊢; have hx9 : Ext w3 w9 := (show Ext w3 _ from (by (with_reducible (repeat' (first | exact z_r _ | assumption | refine z_d ?_ | refine z_n ?_ _ | refine z_a ?_ _ | refine z_s ?_ ?_ _ | refine z_t ?_ (by assumption)))); all_goals (simp <;> omega))).of_below (t9.to_below (B := w3.heap.size) (show Ext w3 _ from (by (with_reducible (repeat' (first | exact z_r _ | assumption | refine z_d ?_ | refine z_n ?_ _ | refine z_a ?_ _ | refine z_s ?_ ?_ _ | refine z_t ?_ (by assumption)))); all_goals (simp <;> omega))).size (fun q hq => (own_lt L0.out hq).1)) (Nat.le_refl _); have G0 := hide o9; (try replace DT := hide (DT.out.touch t9 (fun h => Blk.ne_own DT.out L0.out (by decide) h))); (try replace t0 := DT.out.at 0 rfl); (try replace t1 := DT.out.at 1 rfl); (try replace t2 := DT.out.at 2 rfl); (try replace tf0 := DT.out.frozen 0); (try replace tf1 := DT.out.frozen 1); (try replace tf2 := DT.out.frozen 2); (try replace tz := DT.out.lt); clear o9; refine hK.out _ _ (pr_of (by (with_reducible (repeat' (first | exact z_r _ | assumption | refine z_d ?_ | refine z_n ?_ _ | refine z_a ?_ _ | refine z_s ?_ ?_ _ | refine z_t ?_ (by assumption)))); all_goals (simp <;> omega))) (fun hHeld => ?_); clear hK K; (try simp only [Act.put, z_3, z_4, z_5]))
 iterate 1 (apply SeqT.free; (· (simp only [z_0, z_1, z_2]; rfl)); (· first | exact Or.inr ⟨by rfl, rfl⟩ | (refine Or.inl ⟨by rfl, ?_⟩; intro w hSw; (try dsimp only at hSw); go_simp; try with_reducible rfl)); try simp only [Act.put, z_3, z_4, z_5])
 (apply SeqT.last; (· (simp only [z_0, z_1, z_2]; rfl)))
 (intro K hK; go_simp; refine hK.out _ _ (pr_of (by (with_reducible (repeat' (first | exact z_r _ | assumption | refine z_d ?_ | refine z_n ?_ _ | refine z_a ?_ _ | refine z_s ?_ ?_ _ | refine z_t ?_ (by assumption)))); all_goals (simp <;> omega))) (fun hHeld => ?_); clear hK K; (try simp only [Act.put, z_3, z_4, z_5]); refine SeqT.namedExt hHeld.2 ?_; intro wq hwq xq; have XQ := hide xq; have DQ := hide (show Blk wq _ 26 #[.int .i64 W, .int .i64 H, .slice a9 n c9] from hwq ▸ (((DT.out.set_ 0 (.int .i64 W)).set_ 1 (.int .i64 H)).set_ 2 (.slice a9 n c9))); have GQ := hide (show Own u16G wq w3.heap.size 83 (.slice a9 n c9) l from hwq ▸ Own.touch G0.out (touch3 _ _ _ _ _) (fun q hq e => Blk.ne_own DT.out G0.out (by decide) (by rw [← e]; exact hq))); clear hwq hHeld xq t0 t1 t2 tf0 tf1 tf2 tz DT G0 L0)
 refine SeqT.fin ?_
 rotate_left
 (apply SeqT.last; (· (simp only [z_0, z_1, z_2]; rfl)))
 (intro K hK; go_simp; refine hK.out _ _ (pr_of (by (with_reducible (repeat' (first | exact z_r _ | assumption | refine z_d ?_ | refine z_n ?_ _ | refine z_a ?_ _ | refine z_s ?_ ?_ _ | refine z_t ?_ (by assumption)))); all_goals (simp <;> omega))) (fun hHeld => ?_); clear hK K; (try simp only [Act.put, z_3, z_4, z_5]); (first | refine SeqT.named ?_ (by assumption) | refine SeqT.namedD ?_ (by assumption)); intro wt dt hxt hzt hSt; have DT := hide dt; have zt3 := blk_ge DT (show w3.heap.size ≤ _ from (show Ext w3 _ from (by (with_reducible (repeat' (first | exact z_r _ | assumption | refine z_d ?_ | refine z_n ?_ _ | refine z_a ?_ _ | refine z_s ?_ ?_ _ | refine z_t ?_ (by assumption)))); all_goals (simp <;> omega))).size); clear dt hzt; (try replace L0 := hide (L0.out.ext hxt)); (try replace G0 := hide (G0.out.ext hxt)); have t0 := DT.out.at 0 rfl; have t1 := DT.out.at 1 rfl; have t2 := DT.out.at 2 rfl; have tf0 := DT.out.frozen 0; have tf1 := DT.out.frozen 1; have tf2 := DT.out.frozen 2; have tz := DT.out.lt)
 (apply SeqT.last; (· (simp only [z_0, z_1, z_2]; rfl)))
 (intro K hK; go_simp; refine hK.out _ _ (pr_of (by (with_reducible (repeat' (first | exact z_r _ | assumption | refine z_d ?_ | refine z_n ?_ _ | refine z_a ?_ _ | refine z_s ?_ ?_ _ | refine z_t ?_ (by assumption)))); all_goals (simp <;> omega))) (fun hHeld => ?_); clear hK K; (try simp only [Act.put, z_3, z_4, z_5]); (first | refine SeqT.named ?_ (by assumption) | refine SeqT.namedD ?_ (by assumption)); intro wl dl hxl hzl hSl; have L0 := hide (own_empty u16G dl (show w3.heap.size ≤ _ from (show Ext w3 _ from (by (with_reducible (repeat' (first | exact z_r _ | assumption | refine z_d ?_ | refine z_n ?_ _ | refine z_a ?_ _ | refine z_s ?_ ?_ _ | refine z_t ?_ (by assumption)))); all_goals (simp <;> omega))).size)); clear dl hzl; (try replace DT := hide (DT.out.ext hxl)))
 (apply SeqT.last; (· (simp only [z_0, z_1, z_2]; rfl)))
 (intro K hK; refine step_app_rows u16G T_u16G (by rfl) _ _ (by rfl) w3.heap.size _ [] l (by rfl) L0.out _ (by rfl) (HRd.out _ (X3.out.trans (by (with_reducible (repeat' (first | exact z_r _ | assumption | refine z_d ?_ | refine z_n ?_ _ | refine z_a ?_ _ | refine z_s ?_ ?_ _ | refine z_t ?_ (by assumption)))); all_goals (simp <;> omega)))) (by rw [HN.out]; simp; omega) (by rw [HN.out]; simp; omega) (show Ext w3 _ from (by (with_reducible (repeat' (first | exact z_r _ | assumption | refine z_d ?_ | refine z_n ?_ _ | refine z_a ?_ _ | refine z_s ?_ ?_ _ | refine z_t ?_ (by assumption)))); all_goals (simp <;> omega))).size ?_; intro v9 w9 o9 t9 l9; obtain ⟨a9, c9, rfl⟩ := o9.slice; rw [show ([] ++ l : List Int).length = n from HN.out] at o9 ⊢; have hx9 : Ext w3 w9 := (show Ext w3 _ from (by (with_reducible (repeat' (first | exact z_r _ | assumption | refine z_d ?_ | refine z_n ?_ _ | refine z_a ?_ _ | refine z_s ?_ ?_ _ | refine z_t ?_ (by assumption)))); all_goals (simp <;> omega))).of_below (t9.to_below (B := w3.heap.size) (show Ext w3 _ from (by (with_reducible (repeat' (first | exact z_r _ | assumption | refine z_d ?_ | refine z_n ?_ _ | refine z_a ?_ _ | refine z_s ?_ ?_ _ | refine z_t ?_ (by assumption)))); all_goals (simp <;> omega))).size (fun q hq => (own_lt L0.out hq).1)) (Nat.le_refl _); have G0 := hide o9; (try replace DT := hide (DT.out.touch t9 (fun h => Blk.ne_own DT.out L0.out (by decide) h))); (try replace t0 := DT.out.at 0 rfl); (try replace t1 := DT.out.at 1 rfl); (try replace t2 := DT.out.at 2 rfl); (try replace tf0 := DT.out.frozen 0); (try replace tf1 := DT.out.frozen 1); (try replace tf2 := DT.out.frozen 2); (try replace tz := DT.out.lt); clear o9; refine hK.out _ _ (pr_of (by (with_reducible (repeat' (first | exact z_r _ | assumption | refine z_d ?_ | refine z_n ?_ _ | refine z_a ?_ _ | refine z_s ?_ ?_ _ | refine z_t ?_ (by assumption)))); all_goals (simp <;> omega))) (fun hHeld => ?_); clear hK K; (try simp only [Act.put, z_3, z_4, z_5]))
 iterate 1 (apply SeqT.free; (· (simp only [z_0, z_1, z_2]; rfl)); (· first | exact Or.inr ⟨by rfl, rfl⟩ | (refine Or.inl ⟨by rfl, ?_⟩; intro w hSw; (try dsimp only at hSw); go_simp; try with_reducible rfl)); try simp only [Act.put, z_3, z_4, z_5])
 (apply SeqT.last; (· (simp only [z_0, z_1, z_2]; rfl)))
 (intro K hK; go_simp; refine hK.out _ _ (pr_of (by (with_reducible (repeat' (first | exact z_r _ | assumption | refine z_d ?_ | refine z_n ?_ _ | refine z_a ?_ _ | refine z_s ?_ ?_ _ | refine z_t ?_ (by assumption)))); all_goals (simp <;> omega))) (fun hHeld => ?_); clear hK K; (try simp only [Act.put, z_3, z_4, z_5]); refine SeqT.namedExt hHeld.2 ?_; intro wq hwq xq; have XQ := hide xq; have DQ := hide (show Blk wq _ 26 #[.int .i64 W, .int .i64 H, .slice a9 n c9] from hwq ▸ (((DT.out.set_ 0 (.int .i64 W)).set_ 1 (.int .i64 H)).set_ 2 (.slice a9 n c9))); have GQ := hide (show Own u16G wq w3.heap.size 83 (.slice a9 n c9) l from hwq ▸ Own.touch G0.out (touch3 _ _ _ _ _) (fun q hq e => Blk.ne_own DT.out G0.out (by decide) (by rw [← e]; exact hq))); clear hwq hHeld xq t0 t1 t2 tf0 tf1 tf2 tz DT G0 L0)
 refine SeqT.fin ?_
 all_goals
  (first | (obtain ⟨tb, htb⟩ : ∃ z, w9.heap.size = z := ⟨_, rfl⟩; rw [htb] at DQ) | (obtain ⟨tb, htb⟩ : ∃ z, wl.heap.size = z := ⟨_, rfl⟩; rw [htb] at DQ) | (obtain ⟨tb, htb⟩ : ∃ z, w3.heap.size = z := ⟨_, rfl⟩; rw [htb] at DQ))
  rw [htb] at zt3 ⊢
  have C2 := hide (B2.out.ext XQ.out)
  have C3 := hide (B3.out.ext XQ.out)
  have C4 := hide (B4.out.ext XQ.out)
  have ztb := DQ.out.lt
  clear htb hxl hSl hxt hSt t9 l9 hx9 B2 B3 B4 x0 x1 x2 xz
  go_wp2_with fail
  obtain ⟨wv, hwv⟩ : ∃ z, z = wq.alloc (.cells #[] 69) := ⟨_, rfl⟩
  have xv : Ext wq wv := by rw [hwv]; exact (Ext.refl _).alloc _
  have D2 := hide (C2.out.ext xv)
  have D3 := hide (C3.out.ext xv)
  have D4 := hide (C4.out.ext xv)
  have DT := hide (DQ.out.ext xv)
  have GV := hide (GQ.out.ext xv)
  have XV := hide ((X3.out.trans XQ.out).trans xv)
  have zq3 := XQ.out.size
  have LV := hide (show Own cellE wv w3.heap.size 69 (.slice (some ⟨wq.heap.size, 0, none⟩) 0 0) [] by rw [hwv]; exact own_empty cellE (Blk.new_ rfl) zq3)
  have zv := xv.size
  rw [← hwv]
  clear hwv xv C2 C3 C4 DQ GQ XQ
  go_loopw [7, 8] (fun cv iv wr => ∃ j : Nat, j ≤ m ∧ iv = .int .i64 (j : Int) ∧ Ext w wr ∧ (Blk wr f 26 #[.int .i64 W, .int .i64 H, .slice a n c] ∧ Blk wr (f + 1) 44 #[.slice ea m ec, .bool hides] ∧ Blk wr (f + 1 + 1) 26 #[.int .i64 0, .int .i64 0, .slice none 0 0] ∧ Blk wr tb 26 #[.int .i64 W, .int .i64 H, .slice a9 n c9]) ∧ Own u16G wr w3.heap.size 83 (.slice a9 n c9) (turnL l (E.take j)) ∧ Own cellE wr w3.heap.size 69 cv ((E.take (namedN hides m j)).map (cellOf W n))) (fun _ iv _ => m - (intOf iv).toNat)
  case atStart => exact ⟨0, Nat.zero_le _, rfl, XV.out, ⟨D2.out, D3.out, D4.out, DT.out⟩, GV.out, by unfold namedN; cases hides <;> exact LV.out⟩
  case round =>
   obtain ⟨j, hj, rfl, hx, ⟨h2, h3, h4, ht⟩, hg, hcv⟩ := hrel
   have XR := hide hx
   have R2 := hide h2
   have R3 := hide h3
   have R4 := hide h4
   have RT := hide ht
   have GR := hide hg
   have CR := hide hcv
   have zr := hx.size
   clear hx h2 h3 h4 ht hg hcv XV D2 D3 D4 DT GV LV
   by_cases hlt : j < m
   ·obtain ⟨q, hq⟩ : ∃ q, E[j]? = some q := ⟨_, List.getElem?_eq_getElem (by rw [HM.out]; exact hlt)⟩
    obtain ⟨b, off, rfl, hb, hcc⟩ := HE.out (by rw [HM.out]; omega)
    obtain ⟨hkl, hql⟩ := List.getElem?_eq_some_iff.1 hq
    have h1 := hcc j hkl
    rw [hql] at h1
    have d0 := (XR.out.cell (p := ⟨b, off + j * 2, none⟩) hb).trans h1.1
    have d1 := (XR.out.cell (p := ⟨b, off + j * 2 + 1, none⟩) hb).trans h1.2
    have hbw : b < wr.heap.size := by omega
    have HTK := hide (show E.take (j + 1) = E.take j ++ [q] by rw [List.take_add_one, hq]; rfl)
    obtain ⟨ix, hix⟩ : ∃ z, ixE n q = z := ⟨_, rfl⟩
    have hixn : ix < n := by rw [← hix]; exact ixE_lt hn0 q
    have hixi : q.1 % (n : Int) = (ix : Int) := by rw [← hix]; exact (ixE_int hn0 q).symm
    obtain ⟨k1, k2, k3⟩ := rem_in (x := q.1) (n := (n : Int)) (by omega) (by omega)
    rw [hixi] at k3
    have hn00 : ((n : Int) == 0) = false := by simp; omega
    have jj : (j : Int) < (m : Int) := by omega
    have HIX := hide hix
    have HCO := hide (show coE q = q.2 % 65536 from rfl)
    obtain ⟨x, y⟩ := q
    simp only at d0 d1 k1 k2 k3 HCO
    have y0 := R3.out.at 0 rfl; have y1 := R3.out.at 1 rfl; have yz := R3.out.lt
    have t0 := RT.out.at 0 rfl; have t1 := RT.out.at 1 rfl; have t2 := RT.out.at 2 rfl; have tz := RT.out.lt
    clear hq hcc hkl hql h1 hix hixi
    go_wp2_with fail
    go_quiet (fail)
    obtain ⟨wy, hwy⟩ : ∃ z, z = wr.drewN nq := ⟨_, rfl⟩
    have xy : Ext wr wy := by rw [hwy]; exact (Ext.refl _).drewN nq
    have XY := hide (XR.out.trans xy)
    have Y2 := hide (R2.out.ext xy)
    have Y3 := hide (R3.out.ext xy)
    have Y4 := hide (R4.out.ext xy)
    have YT := hide (RT.out.ext xy)
    have GY := hide (GR.out.ext xy)
    have CY := hide (CR.out.ext xy)
    have d1y := (xy.cell (p := ⟨b, off + j * 2 + 1, none⟩) hbw).trans d1
    have zy := xy.size
    obtain ⟨g9, hg9⟩ : ∃ g9, a9 = some ⟨g9, 0, none⟩ := by
     rcases GY.out.2 with ⟨hv, h0⟩ | ⟨g, cap, cur, hv, _⟩
     ·rw [HTL.out j] at h0; omega
     ·injection hv with h1 _ _; exact ⟨g, h1⟩
    subst hg9
    obtain ⟨cy, hcy⟩ : ∃ z, y % 65536 = z := ⟨_, rfl⟩
    have HCY := hide (HCO.out.trans hcy)
    have k5 : (y.tmod 65536 + 65536).tmod 65536 = cy := by rw [rem_twice (by omega)]; exact hcy
    have k6 : IntKind.i64.wrap (y.tmod 65536 + 65536) = y.tmod 65536 + 65536 := IntWalk.i64_in _ (by have := rem_bd (x := y) (n := 65536) (by omega); omega)
    have cy0 : 0 ≤ cy ∧ cy ≤ 65535 := by omega
    have k7 : IntKind.u16.wrap cy = cy := IntWalk.u16_in _ cy0
    have S0 := hide (show CellsAt [(⟨tb, 2, none⟩, .slice (some ⟨g9, 0, none⟩) n c9), (⟨f + 1, 0, none⟩, .slice (some ⟨b, off, none⟩) m ec), (⟨b, off + j * 2 + 1, none⟩, .int .i64 y)] wy from ⟨YT.out.at 2 rfl, Y3.out.at 0 rfl, d1y, trivial⟩)
    have gz := own_lt GY.out (k := g9) rfl
    have hgt : tb ≠ g9 := fun e => YT.out.ne_own GY.out (by decide) (by rw [e]; rfl)
    have cg := (u16G_at GY.out (i := ix) (by rw [HTL.out j]; exact hixn)).1
    have fg := (u16G_at GY.out (i := ix) (by rw [HTL.out j]; exact hixn)).2
    have TG := hide (touchOne wy.drew g9 ix (.int .u16 cy))
    have jx : (ix : Int) < (n : Int) := by omega
    have zbw : b < w3.heap.size := by have := X3.out.size; omega
    rw [← hwy]
    clear hwy xy R2 R3 R4 RT GR CR d0 d1 d1y y0 y1 yz t0 t1 t2 tz hcy hn00 k1 k2 k3
    go_wp2_with fail
    refine seqH_start (S := (CellsAt [(⟨tb, 2, none⟩, .slice (some ⟨g9, 0, none⟩) n c9), (⟨f + 1, 0, none⟩, .slice (some ⟨b, off, none⟩) m ec), (⟨b, off + j * 2 + 1, none⟩, .int .i64 y)])) [(0, true), (1, true), (2, true), (3, true), (4, true), (5, true), (6, true), (7, true), (8, true), (9, true), (10, true), (11, true), (12, true), (13, true), (14, false)] (by kernel_rfl) (by kernel_rfl) (by kernel_rfl) (by decide) (fun _ _ d _ _ h => by cases d <;> exact h) (CellsAt.ext ((Ext.refl _).drew) S0.out) (fun hHeld => ?_)
    iterate 14 (apply SeqH.free; (· (simp only [z_0, z_1, z_2]; rfl)); (· first | exact Or.inr ⟨by rfl, rfl⟩ | (refine Or.inl ⟨by rfl, ?_⟩; intro w hSw; (try dsimp only at hSw); simp only [CellsAt] at hSw; go_simp; try with_reducible rfl)); try simp only [Act.put, z_3, z_4, z_5])
    (apply SeqH.step; (· (simp only [z_0, z_1, z_2]; rfl)); intro K hK; go_simp; refine hK.out _ _ (CellsAt.touch TG.out (fun q hq h => (by simp only [List.mem_cons, List.not_mem_nil, or_false] at hq; rcases hq with rfl | rfl | rfl <;> (simp only at h; omega))) (CellsAt.ext ((Ext.refl _).drew) S0.out)) (fun hHeld => ?_); clear hK K; try simp only [Act.put, z_3, z_4, z_5])
    refine SeqH.done ?_
    obtain ⟨ws, hws⟩ : ∃ z, z = (wy.setCell ⟨g9, ix, none⟩ (.int .u16 cy)).drew := ⟨_, rfl⟩
    have TS : Touch (fun j => j = g9) wy ws := by rw [hws]; exact (touchOne wy g9 ix _).drew
    have Z2 := hide (Y2.out.touch TS (fun e => Y2.out.ne_own GY.out (by decide) (by rw [e]; rfl)))
    have Z3 := hide (Y3.out.touch TS (fun e => Y3.out.ne_own GY.out (by decide) (by rw [e]; rfl)))
    have Z4 := hide (Y4.out.touch TS (fun e => Y4.out.ne_own GY.out (by decide) (by rw [e]; rfl)))
    have ZT := hide (YT.out.touch TS hgt)
    have XZ := hide (XY.out.of_below (TS.to_below XY.out.size (fun j e => by have := X3.out.size; omega)) (Nat.le_refl _))
    have CZ := hide (Own.touch CY.out TS (fun q hq e => own_ne_own GY.out CY.out (by decide) (k := g9) rfl (by rw [← e]; exact hq)))
    have GZ := hide (show Own u16G ws w3.heap.size 83 (.slice (some ⟨g9, 0, none⟩) n c9) (turnL l (E.take (j + 1))) by
     rw [HTK.out, turnL_snoc, HN.out, HIX.out, HCY.out, hws]
     exact u16G_turn GY.out (by rw [HTL.out j]; exact hixn) cy)
    have zs := TS.size
    rw [← hws]
    clear hws TS hHeld S0 TG cg fg Y2 Y3 Y4 YT GY CY XY k5 k6 k7
    have y0 := Z3.out.at 0 rfl; have y1 := Z3.out.at 1 rfl; have yz := Z3.out.lt
    have km : IntKind.i64.wrap ((m : Int) - 1) = (m : Int) - 1 := IntWalk.i64_in _ (by omega)
    by_cases hnm : hides = false ∨ j + 1 < m
    ·have HNM := hide (show (E.take (namedN hides m (j + 1))).map (cellOf W n) = (E.take (namedN hides m j)).map (cellOf W n) ++ [((ix : Int) % W, (ix : Int) / W)] by
      have e1 : namedN hides m (j + 1) = j + 1 := namedN_all hnm
      have e2 : namedN hides m j = j := namedN_all (.inr hlt)
      rw [e1, e2, HTK.out, List.map_append]
      unfold cellOf
      simp only [List.map_cons, List.map_nil, HIX.out])
     have HNL := hide (show ((E.take (namedN hides m j)).map (cellOf W n)).length ≤ 20 by rw [List.length_map, List.length_take, HM.out]; omega)
     have hw0 : (W == 0) = false := by simp; omega
     have hw1 : ¬ W = 0 := by omega
     have q1 : (ix : Int).tmod W = (ix : Int) % W := Int.tmod_eq_emod_of_nonneg (by omega)
     have q2 : IntKind.i64.wrap ((ix : Int).tdiv W) = (ix : Int) / W := tdiv_in (by omega) (by omega) (by omega)
     have q3 : IntKind.i64.wrap ((ix : Int) / W) = (ix : Int) / W := IntWalk.i64_in _ (by have := div_bd (a := (ix : Int)) (s := W) (A := 260) (by omega) (by omega) (by omega); omega)
     have hdj : hides = true → decide ((j : Int) < (m : Int) - 1) = true := fun h => by
      rcases hnm with h2 | h2
      ·rw [h] at h2; cases h2
      ·simp; omega
     have x0 := Z2.out.at 0 rfl; have x1 := Z2.out.at 1 rfl; have x2 := Z2.out.at 2 rfl; have xz := Z2.out.lt
     have SZ := hide (show CellsAt [(⟨f, 0, none⟩, .int .i64 W)] ws from ⟨Z2.out.at 0 rfl, trivial⟩)
     clear hnm
     cases hides with
     | false =>
      go_wp2_with fail
      refine seqH_start (S := (CellsAt [(⟨f, 0, none⟩, .int .i64 W)])) [(0, true), (1, true), (2, true), (3, true), (4, true), (5, true), (6, true), (7, true), (8, true), (9, true), (10, true), (11, true), (12, false), (13, false), (14, true)] (by kernel_rfl) (by kernel_rfl) (by kernel_rfl) (by decide) (fun _ _ d _ _ h => by cases d <;> exact h) (CellsAt.ext ((Ext.refl _).drew) SZ.out) (fun hHeld => ?_)
      iterate 5 (apply SeqH.free; (· (simp only [z_0, z_1, z_2]; rfl)); (· first | exact Or.inr ⟨by rfl, rfl⟩ | (refine Or.inl ⟨by rfl, ?_⟩; intro w hSw; (try dsimp only at hSw); simp only [CellsAt] at hSw; go_simp; try with_reducible rfl)); try simp only [Act.put, z_3, z_4, z_5])
      (apply SeqH.free (v := .int .i64 ((ix : Int) % W)); (· (simp only [z_0, z_1, z_2]; rfl)); (· refine Or.inl ⟨by rfl, ?_⟩; intro w hSw; (try dsimp only at hSw); simp only [CellsAt] at hSw; go_simp); try simp only [Act.put, z_3, z_4, z_5])
      iterate 4 (apply SeqH.free; (· (simp only [z_0, z_1, z_2]; rfl)); (· first | exact Or.inr ⟨by rfl, rfl⟩ | (refine Or.inl ⟨by rfl, ?_⟩; intro w hSw; (try dsimp only at hSw); simp only [CellsAt] at hSw; go_simp; try with_reducible rfl)); try simp only [Act.put, z_3, z_4, z_5])
      (apply SeqH.free (v := .int .i64 ((ix : Int) / W)); (· (simp only [z_0, z_1, z_2]; rfl)); (· refine Or.inl ⟨by rfl, ?_⟩; intro w hSw; (try dsimp only at hSw); simp only [CellsAt] at hSw; go_simp); try simp only [Act.put, z_3, z_4, z_5])
      iterate 1 (apply SeqH.free; (· (simp only [z_0, z_1, z_2]; rfl)); (· first | exact Or.inr ⟨by rfl, rfl⟩ | (refine Or.inl ⟨by rfl, ?_⟩; intro w hSw; (try dsimp only at hSw); simp only [CellsAt] at hSw; go_simp; try with_reducible rfl)); try simp only [Act.put, z_3, z_4, z_5])
      (apply SeqH.step; (· (simp only [z_0, z_1, z_2]; rfl)); intro K hK; go_simp; refine hK.out _ _ (CellsAt.ext (by (with_reducible (repeat' (first | exact z_r _ | assumption | refine z_d ?_ | refine z_n ?_ _ | refine z_a ?_ _ | refine z_s ?_ ?_ _ | refine z_t ?_ (by assumption)))); all_goals (simp <;> omega)) SZ.out) (fun hHeld => ?_); clear hK K; try simp only [Act.put, z_3, z_4, z_5])
      (apply SeqH.step; (· (simp only [z_0, z_1, z_2]; rfl)); intro K hK; refine step_app_drew cellE T_cells (by rfl) _ _ (by rfl) w3.heap.size ws u7 _ (by rfl) CZ.out ((ix : Int) % W, (ix : Int) / W) _ _ (by rfl) _ (by rfl) (by rfl) (by have := HNL.out; omega) (by have := HNL.out; omega) (by omega) ?_; intro g7 c7 w7 o7 t7 l7; have O7 := hide o7; have T7 := hide t7; have S7 := hide (CellsAt.touch t7 (fun q hq h => (by simp only [List.mem_cons, List.not_mem_nil, or_false] at hq; subst hq; exact Z2.out.ne_own CZ.out (by decide) h)) SZ.out); clear o7 t7 l7; refine hK.out _ _ (S7.out) (fun hHeld => ?_); clear hK K; try simp only [Act.put, z_3, z_4, z_5])
      iterate 1 (apply SeqH.free; (· (simp only [z_0, z_1, z_2]; rfl)); (· first | exact Or.inr ⟨by rfl, rfl⟩ | (refine Or.inl ⟨by rfl, ?_⟩; intro w hSw; (try dsimp only at hSw); simp only [CellsAt] at hSw; go_simp; try with_reducible rfl)); try simp only [Act.put, z_3, z_4, z_5])
      refine SeqH.done ?_
      have U2 := hide (Z2.out.touch T7.out (fun h => Z2.out.ne_own CZ.out (by decide) h))
      have U3 := hide (Z3.out.touch T7.out (fun h => Z3.out.ne_own CZ.out (by decide) h))
      have U4 := hide (Z4.out.touch T7.out (fun h => Z4.out.ne_own CZ.out (by decide) h))
      have UT := hide (ZT.out.touch T7.out (fun h => ZT.out.ne_own CZ.out (by decide) h))
      have GU := hide (GZ.out.touch T7.out (fun q hq h => own_ne_own GZ.out CZ.out (by decide) hq h))
      have XU := hide (XZ.out.of_below (T7.out.to_below XZ.out.size (fun q hq => by have := (own_lt CZ.out hq).1; have := X3.out.size; omega)) (Nat.le_refl _))
      clear hHeld S7 SZ
      (try go_wp2_with fail)
      go_roundw
      case rel => exact ⟨j + 1, by omega, by go_num, XU.out, ⟨U2.out, U3.out, U4.out, UT.out⟩, GU.out, by
       rw [HNM.out]
       have h := O7.out
       simp only [List.length_map, List.length_take] at h
       exact h⟩
      case measure => simp [intOf]; omega
     | true =>
      have hdj := hdj rfl
      go_wp2_with fail
      refine seqH_start (S := (CellsAt [(⟨f, 0, none⟩, .int .i64 W)])) [(0, true), (1, true), (2, true), (3, true), (4, true), (5, true), (6, true), (7, true), (8, true), (9, true), (10, true), (11, true), (12, false), (13, false), (14, true)] (by kernel_rfl) (by kernel_rfl) (by kernel_rfl) (by decide) (fun _ _ d _ _ h => by cases d <;> exact h) (CellsAt.ext ((Ext.refl _).drew) SZ.out) (fun hHeld => ?_)
      iterate 5 (apply SeqH.free; (· (simp only [z_0, z_1, z_2]; rfl)); (· first | exact Or.inr ⟨by rfl, rfl⟩ | (refine Or.inl ⟨by rfl, ?_⟩; intro w hSw; (try dsimp only at hSw); simp only [CellsAt] at hSw; go_simp; try with_reducible rfl)); try simp only [Act.put, z_3, z_4, z_5])
      (apply SeqH.free (v := .int .i64 ((ix : Int) % W)); (· (simp only [z_0, z_1, z_2]; rfl)); (· refine Or.inl ⟨by rfl, ?_⟩; intro w hSw; (try dsimp only at hSw); simp only [CellsAt] at hSw; go_simp); try simp only [Act.put, z_3, z_4, z_5])
      iterate 4 (apply SeqH.free; (· (simp only [z_0, z_1, z_2]; rfl)); (· first | exact Or.inr ⟨by rfl, rfl⟩ | (refine Or.inl ⟨by rfl, ?_⟩; intro w hSw; (try dsimp only at hSw); simp only [CellsAt] at hSw; go_simp; try with_reducible rfl)); try simp only [Act.put, z_3, z_4, z_5])
      (apply SeqH.free (v := .int .i64 ((ix : Int) / W)); (· (simp only [z_0, z_1, z_2]; rfl)); (· refine Or.inl ⟨by rfl, ?_⟩; intro w hSw; (try dsimp only at hSw); simp only [CellsAt] at hSw; go_simp); try simp only [Act.put, z_3, z_4, z_5])
      iterate 1 (apply SeqH.free; (· (simp only [z_0, z_1, z_2]; rfl)); (· first | exact Or.inr ⟨by rfl, rfl⟩ | (refine Or.inl ⟨by rfl, ?_⟩; intro w hSw; (try dsimp only at hSw); simp only [CellsAt] at hSw; go_simp; try with_reducible rfl)); try simp only [Act.put, z_3, z_4, z_5])
      (apply SeqH.step; (· (simp only [z_0, z_1, z_2]; rfl)); intro K hK; go_simp; refine hK.out _ _ (CellsAt.ext (by (with_reducible (repeat' (first | exact z_r _ | assumption | refine z_d ?_ | refine z_n ?_ _ | refine z_a ?_ _ | refine z_s ?_ ?_ _ | refine z_t ?_ (by assumption)))); all_goals (simp <;> omega)) SZ.out) (fun hHeld => ?_); clear hK K; try simp only [Act.put, z_3, z_4, z_5])
      (apply SeqH.step; (· (simp only [z_0, z_1, z_2]; rfl)); intro K hK; refine step_app_drew cellE T_cells (by rfl) _ _ (by rfl) w3.heap.size ws u7 _ (by rfl) CZ.out ((ix : Int) % W, (ix : Int) / W) _ _ (by rfl) _ (by rfl) (by rfl) (by have := HNL.out; omega) (by have := HNL.out; omega) (by omega) ?_; intro g7 c7 w7 o7 t7 l7; have O7 := hide o7; have T7 := hide t7; have S7 := hide (CellsAt.touch t7 (fun q hq h => (by simp only [List.mem_cons, List.not_mem_nil, or_false] at hq; subst hq; exact Z2.out.ne_own CZ.out (by decide) h)) SZ.out); clear o7 t7 l7; refine hK.out _ _ (S7.out) (fun hHeld => ?_); clear hK K; try simp only [Act.put, z_3, z_4, z_5])
      iterate 1 (apply SeqH.free; (· (simp only [z_0, z_1, z_2]; rfl)); (· first | exact Or.inr ⟨by rfl, rfl⟩ | (refine Or.inl ⟨by rfl, ?_⟩; intro w hSw; (try dsimp only at hSw); simp only [CellsAt] at hSw; go_simp; try with_reducible rfl)); try simp only [Act.put, z_3, z_4, z_5])
      refine SeqH.done ?_
      have U2 := hide (Z2.out.touch T7.out (fun h => Z2.out.ne_own CZ.out (by decide) h))
      have U3 := hide (Z3.out.touch T7.out (fun h => Z3.out.ne_own CZ.out (by decide) h))
      have U4 := hide (Z4.out.touch T7.out (fun h => Z4.out.ne_own CZ.out (by decide) h))
      have UT := hide (ZT.out.touch T7.out (fun h => ZT.out.ne_own CZ.out (by decide) h))
      have GU := hide (GZ.out.touch T7.out (fun q hq h => own_ne_own GZ.out CZ.out (by decide) hq h))
      have XU := hide (XZ.out.of_below (T7.out.to_below XZ.out.size (fun q hq => by have := (own_lt CZ.out hq).1; have := X3.out.size; omega)) (Nat.le_refl _))
      clear hHeld S7 SZ
      (try go_wp2_with fail)
      go_roundw
      case rel => exact ⟨j + 1, by omega, by go_num, XU.out, ⟨U2.out, U3.out, U4.out, UT.out⟩, GU.out, by
       rw [HNM.out]
       have h := O7.out
       simp only [List.length_map, List.length_take] at h
       exact h⟩
      case measure => simp [intOf]; omega
    ·obtain ⟨rfl, hj1⟩ : hides = true ∧ j + 1 = m := by
      cases hides
      ·simp at hnm
      ·simp at hnm; exact ⟨rfl, by omega⟩
     have hdj : decide ((j : Int) < (m : Int) - 1) = false := by simp; omega
     have HNM := hide (show (E.take (namedN true m (j + 1))).map (cellOf W n) = (E.take (namedN true m j)).map (cellOf W n) by
      have e1 : namedN true m (j + 1) = j := by unfold namedN; simp; omega
      have e2 : namedN true m j = j := by unfold namedN; simp; omega
      rw [e1, e2])
     go_wp2_with fail
     go_roundw
     case rel => exact ⟨j + 1, by omega, by go_num, XZ.out, ⟨Z2.out, Z3.out, Z4.out, ZT.out⟩, GZ.out, by rw [HNM.out]; exact CZ.out⟩
     case measure => simp [intOf]; omega
   ·obtain rfl : m = j := by omega
    have y0 := R3.out.at 0 rfl; have y1 := R3.out.at 1 rfl; have yz := R3.out.lt
    have t0 := RT.out.at 0 rfl; have t1 := RT.out.at 1 rfl; have t2 := RT.out.at 2 rfl; have tz := RT.out.lt
    have r0 := R4.out.at 0 rfl; have r1 := R4.out.at 1 rfl; have r2 := R4.out.at 2 rfl; have rz := R4.out.lt
    have f0 := R4.out.frozen 0
    have f1 := R4.out.frozen 1
    have f2 := R4.out.frozen 2
    have HTE := hide (show E.take m = E from List.take_of_length_le (by rw [HM.out]; exact Nat.le_refl _))
    have hle : (turnL l E).length = n := by have := HTL.out m; rw [HTE.out] at this; exact this
    have HLE := hide hle
    have zx3 := X3.out.size
    have hzf := HF.out
    have hzz : w.heap.size ≤ f + 2 := by omega
    have HZF := hide hzf
    have hff : w.heap.size ≤ f := by omega
    have FIN : Hid (∀ w', Touch (fun j => j = f + 1 + 1) wr w' → Ext w w' ∧ Own u16G w' w.heap.size 83 (.slice a9 n c9) (turnL l E) ∧ Own cellE w' w.heap.size 69 u7 (namedL W n E hides)) := hide (fun w' tt => ⟨XR.out.of_below (tt.to_below XR.out.size (fun j e => by omega)) (Nat.le_refl _), by
      have h := GR.out
      rw [HTE.out] at h
      exact (Own.touch h tt (fun q hq e => by have := (own_lt h hq).1; omega)).lower zx3, by
      have h := CR.out
      unfold namedL
      rw [HM.out]
      exact (Own.touch h tt (fun q hq e => by have := (own_lt h hq).1; omega)).lower zx3⟩)
    have TF := hide (touch3 wr (f + 1 + 1) (.int .i64 W) (.int .i64 H) (.slice a9 n c9))
    have BF := hide (((R4.out.set_ 0 (.int .i64 W)).set_ 1 (.int .i64 H)).set_ 2 (.slice a9 n c9))
    clear hzf hle zx3
    go_wp2_with fail
    have e0 := BF.out.at 0 rfl
    have e1 := BF.out.at 1 rfl
    have e2 := BF.out.at 2 rfl
    have ez := BF.out.lt
    exact bodyPost_ret (v := .tuple #[.agg #[.int .i64 W, .int .i64 H, .slice a9 n c9], u7]) (by simp [results, Tryz.results21, go_sem, *]) rfl ⟨a9, c9, u7, by rw [HLE.out], (FIN.out _ TF.out).1, by rw [HLE.out]; exact (FIN.out _ TF.out).2.1, (FIN.out _ TF.out).2.2⟩

/-- Turns in memory: edits, and whether the last one is hidden. -/
def TurnsAt (w : World) (a : Option Addr) (L : List (List (Int × Int) × Bool)) : Prop :=
 0 < L.length → ∃ b off, a = some ⟨b, off, none⟩ ∧ b < w.heap.size ∧ ∀ k (h : k < L.length), ∃ sa sc, w.cell? ⟨b, off + k * 2, none⟩ = some (.slice sa L[k].1.length sc) ∧ w.cell? ⟨b, off + k * 2 + 1, none⟩ = some (.bool L[k].2) ∧ RowC w sa L[k].1
theorem TurnsAt.ext {w w' : World} {a : Option Addr} {L : List (List (Int × Int) × Bool)} (h : TurnsAt w a L) (x : Ext w w') : TurnsAt w' a L := fun h0 => by
 obtain ⟨b, off, e, hb, hc⟩ := h h0
 refine ⟨b, off, e, Nat.lt_of_lt_of_le hb x.size, fun k hk => ?_⟩
 obtain ⟨sa, sc, c0, c1, r⟩ := hc k hk
 exact ⟨sa, sc, (x.cell (p := ⟨b, _, none⟩) hb).trans c0, (x.cell (p := ⟨b, _, none⟩) hb).trans c1, r.ext x⟩

def smallT (n : Nat) (L : List (List (Int × Int) × Bool)) : Bool := ((L.take 7).all fun t => decide (t.1.length ≤ 20)) && (decide (n ≤ 260) && decide (L.length ≤ 6))
theorem smallT_true {n : Nat} {L : List (List (Int × Int) × Bool)} (h : smallT n L = true) : n ≤ 260 ∧ L.length ≤ 6 ∧ ∀ t ∈ L, t.1.length ≤ 20 := by
 unfold smallT at h
 simp only [Bool.and_eq_true, decide_eq_true_eq, List.all_eq_true] at h
 obtain ⟨h1, h2, h3⟩ := h
 rw [List.take_of_length_le (by omega)] at h1
 exact ⟨h2, h3, h1⟩

set_option maxRecDepth 100000 in
theorem small14_any {w : World} (W H : Int) (a : Option Addr) (n c : Nat) {ta : Option Addr} {L : List (List (Int × Int) × Bool)} (tc : Nat) (ht : TurnsAt w ta L) (hl : L.length ≤ 9223372036854775807) :
  Calls Tryz.prog 20 #[.agg #[.int .i64 W, .int .i64 H, .slice a n c], .slice ta L.length tc] w fun e w' => e = .returned (.bool (smallT n L)) ∧ Ext w w' := by
 have HT := hide ht
 obtain ⟨m, hm⟩ : ∃ z, L.length = z := ⟨_, rfl⟩
 have HM := hide hm
 have HL := hide hl
 rw [hm]
 clear ht hm hl
 go_enter Tryz.func20, Tryz.ntmps20
 go_wp2_with fail
 obtain ⟨w1, hw1⟩ : ∃ z, z = w.alloc (.cells #[.int .i64 W, .int .i64 H, .slice a n c] 26) := ⟨_, rfl⟩
 have X1 := hide (show Ext w w1 by rw [hw1]; exact (Ext.refl _).alloc _)
 have B1 := hide (show Blk w1 w.heap.size 26 #[.int .i64 W, .int .i64 H, .slice a n c] by rw [hw1]; exact Blk.new_ rfl)
 rw [← hw1]
 clear hw1
 go_loop [5] (fun i => ∃ k : Nat, k ≤ m ∧ k ≤ 7 ∧ i = .int .i64 (k : Int) ∧ ∀ q (h : q < L.length), q < k → L[q].1.length ≤ 20) (fun i => 7 - (intOf i).toNat)
 case atStart => exact ⟨0, Nat.zero_le _, by omega, rfl, fun q _ h => absurd h (Nat.not_lt_zero q)⟩
 case round =>
  obtain ⟨k, hk, hk7, rfl, hq⟩ := hrel
  have HQ := hide hq
  clear hq
  by_cases hlt : k < m
  ·by_cases h7 : k < 7
   ·obtain ⟨b, off, rfl, hb, hc⟩ := (HT.out.ext X1.out) (by rw [HM.out]; omega)
    obtain ⟨sa, sc, c0, c1, _⟩ := hc k (by rw [HM.out]; exact hlt)
    have jk : (k : Int) < (m : Int) := by omega
    have j7 : (k : Int) < 7 := by omega
    obtain ⟨u, hu⟩ : ∃ z, (L[k]'(by rw [HM.out]; exact hlt)).1.length = z := ⟨_, rfl⟩
    rw [hu] at c0
    have HU := hide hu
    clear hc hu c1
    by_cases h20 : 20 < u
    ·have j20 : decide ((20 : Int) < (u : Int)) = true := by simp; omega
     have j20' : (20 : Int) < (u : Int) := by omega
     have HF := hide (show smallT n L = false by
      unfold smallT
      rw [Bool.and_eq_false_iff]
      left
      rw [Bool.eq_false_iff]
      intro h
      have hkl : k < L.length := by rw [HM.out]; exact hlt
      have := List.all_eq_true.1 h L[k] (List.mem_take_iff_getElem.2 ⟨k, by omega, rfl⟩)
      simp only [decide_eq_true_eq] at this
      have := HU.out
      omega)
     go_wp2
     go_ret
     exact ⟨by rw [HF.out]; first | rfl | simp, X1.out⟩
    ·have j20 : ¬ (20 : Int) < (u : Int) := by omega
     have j20' : decide ((20 : Int) < (u : Int)) = false := by simp; omega
     go_wp2
     go_round
     case rel => exact ⟨k + 1, by omega, by omega, by go_num, fun q hq hqk => by
       by_cases e : q = k
       ·subst e; have := HU.out; omega
       ·exact HQ.out q hq (by omega)⟩
     case measure => simp [intOf]; omega
   ·obtain rfl : k = 7 := by omega
    have HF := hide (show smallT n L = false by
     unfold smallT
     have : decide (L.length ≤ 6) = false := by simp; have := HM.out; omega
     rw [this]; simp)
    have jm : (7 : Int) < (m : Int) := by omega
    have jd : decide ((m : Int) ≤ 6) = false := by simp; omega
    have x0 := B1.out.at 0 rfl; have x1 := B1.out.at 1 rfl; have x2 := B1.out.at 2 rfl; have xz := B1.out.lt
    by_cases hn : (n : Int) ≤ 260
    ·go_wp2
     go_ret
     exact ⟨by rw [HF.out]; first | rfl | simp, X1.out⟩
    ·have hn' : decide ((n : Int) ≤ 260) = false := by simpa using hn
     go_wp2
     go_ret
     exact ⟨by rw [HF.out]; first | rfl | simp, X1.out⟩
  ·obtain rfl : m = k := by omega
   have HF := hide (show smallT n L = (decide ((n : Int) ≤ 260) && decide ((m : Int) ≤ 6)) by
    unfold smallT
    rw [HM.out]
    by_cases h6 : m ≤ 6
    ·have h1 : ((L.take 7).all fun t => decide (t.1.length ≤ 20)) = true := List.all_eq_true.2 fun t ht => by
      obtain ⟨q, hq, rfl⟩ := List.getElem_of_mem (List.mem_of_mem_take ht)
      simpa using HQ.out q hq (by rw [HM.out] at hq; exact hq)
     rw [h1, Bool.true_and]
     congr 1 <;> exact decide_eq_decide.2 (by omega)
    ·rw [show decide (m ≤ 6) = false by simpa using h6, show decide ((m : Int) ≤ 6) = false by simp; omega]
     simp)
   have x0 := B1.out.at 0 rfl; have x1 := B1.out.at 1 rfl; have x2 := B1.out.at 2 rfl; have xz := B1.out.lt
   by_cases hn : (n : Int) ≤ 260
   ·have hn' : decide ((n : Int) ≤ 260) = true := by simpa using hn
    rw [hn'] at HF
    go_wp2
    go_ret
    exact ⟨by rw [HF.out]; first | rfl | simp, X1.out⟩
   ·have hn' : decide ((n : Int) ≤ 260) = false := by simpa using hn
    rw [hn'] at HF
    go_wp2
    go_ret
    exact ⟨by rw [HF.out]; first | rfl | simp, X1.out⟩
end Go.Proofs.YtkioohhjjdlhiaaGreat
