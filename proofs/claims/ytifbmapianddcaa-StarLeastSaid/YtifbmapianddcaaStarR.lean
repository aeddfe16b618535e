/- The laws of layer 10 in plain words: what a search comes to; with another budget; there and back; and on a map that costs more. -/
import Derived.Test.YtifbmapianddcaaStarK
import Derived.Test.YtifbmapianddcaaStarL
import Derived.Test.YtifbmapianddcaaNetP
set_option linter.all false
set_option linter.unusedVariables false
set_option linter.unusedSimpArgs false
namespace Go.Proofs.Ytifbmapianddcaa

def hT (W : Int) (t : Nat) (v : Nat) : Int := manh (vx W v) (vy W v) (vx W t) (vy W t)

/-- What a search comes to: path, cost, settled, error. -/
def SrchN (G : Net) (W : Int) (s t : Nat) (b : Int) (p : List Nat) (c k e : Int) : Prop :=
  (G.op s = true ∧ G.op t = true ∧ ARun G W (hT W t) t b (start0 s) p c k e) ∨ (¬ (G.op s = true ∧ G.op t = true) ∧ p = [] ∧ c = 0 ∧ k = 0 ∧ e = 22)
def Srch (W H : Int) (l : List Int) (x y tx ty b : Int) (p : List Nat) (c k e : Int) : Prop :=
  (findE W H l.length x y tx ty b ≠ 0 ∧ p = [] ∧ c = 0 ∧ k = 0 ∧ e = findE W H l.length x y tx ty b) ∨
  (findE W H l.length x y tx ty b = 0 ∧ ∃ L : LandP W H l 0 0 W H, SrchN (mapNet L) W (idxN W (x, y)) (idxN W (tx, ty)) b p c k e)

theorem SrchN.one {G : Net} {W : Int} (hW : 1 ≤ W) {s t : Nat} {b : Int} {p p' : List Nat} {c c' k k' e e' : Int} (h : SrchN G W s t b p c k e) (h' : SrchN G W s t b p' c' k' e') : p = p' ∧ c = c' ∧ k = k' ∧ e = e' := by
  rcases h with ⟨h1, h2, h3⟩ | ⟨h1, rfl, rfl, rfl, rfl⟩
  · rcases h' with ⟨_, _, k3⟩ | ⟨k1, _⟩
    · exact h3.one hW k3
    · exact absurd ⟨h1, h2⟩ k1
  · rcases h' with ⟨k1, k2, _⟩ | ⟨_, rfl, rfl, rfl, rfl⟩
    · exact absurd ⟨k1, k2⟩ h1
    · exact ⟨rfl, rfl, rfl, rfl⟩
theorem Srch.one {W H : Int} {l : List Int} {x y tx ty b : Int} {p p' : List Nat} {c c' k k' e e' : Int} (h : Srch W H l x y tx ty b p c k e) (h' : Srch W H l x y tx ty b p' c' k' e') : p = p' ∧ c = c' ∧ k = k' ∧ e = e' := by
  rcases h with ⟨h1, rfl, rfl, rfl, rfl⟩ | ⟨h1, L, h2⟩
  · rcases h' with ⟨_, rfl, rfl, rfl, rfl⟩ | ⟨k1, _⟩
    · exact ⟨rfl, rfl, rfl, rfl⟩
    · exact absurd k1 h1
  · rcases h' with ⟨k1, _⟩ | ⟨_, _, k2⟩
    · exact absurd h1 k1
    · exact h2.one L.wh.1 k2

/-- What is known of a search in a net. -/
structure NetOk (G : Net) (W : Int) (t : Nat) : Prop where
  few : G.n ≤ 1000000
  guess : Guess G (hT W t)
  adj : ∀ v m, m ∈ G.adj v → G.op m = true
theorem netOk {W H : Int} {l : List Int} (L : LandP W H l 0 0 W H) (t : Nat) : NetOk (mapNet L) W t :=
  ⟨(by have := L.wh; have := mul_bd (a := W) (b := H) (A := 256) (B := 256) (by omega) (by omega) (by omega) (by omega); have := L.len; show l.length ≤ 1000000; omega), guess_ok L (fun _ => rfl), fun _ _ h => adj_op L h⟩

theorem SrchN.ends {G : Net} {W : Int} {s t : Nat} (N : NetOk G W t) {b : Int} {p : List Nat} {c k e : Int} (h : SrchN G W s t b p c k e) {D : Nat → Int} (F : IsFar G s D) : 0 ≤ k ∧ k ≤ G.n ∧
    ((e = 0 ∧ G.op s = true ∧ Found G D s t p c) ∨ (e = 22 ∧ p = [] ∧ c = 0 ∧ (¬ (G.op s = true ∧ G.op t = true) ∨ (G.op s = true ∧ D t = infI))) ∨ (e = 23 ∧ p = [] ∧ c = 0 ∧ k = b ∧ b < G.n)) := by
  rcases h with ⟨h1, h2, h3⟩ | ⟨h1, rfl, rfl, rfl, rfl⟩
  · have hc := run_cnt h3
    obtain ⟨a1, a2⟩ := run_end h3 (sinv_start h1 F) F N.few N.guess N.adj (by
      show updN (fun _ => 0) s 1 t ≠ 2
      unfold updN
      split <;> simp)
    refine ⟨hc, a1, ?_⟩
    rcases a2 with ⟨e0, a⟩ | ⟨e0, a, b1, b2⟩ | ⟨e0, b1, b2, b3, b4⟩
    · exact .inl ⟨e0, h1, a⟩
    · exact .inr (.inl ⟨e0, b1, b2, .inr ⟨h1, a⟩⟩)
    · exact .inr (.inr ⟨e0, b1, b2, b3, b4⟩)
  · exact ⟨Int.le_refl _, by omega, .inr (.inl ⟨rfl, rfl, rfl, .inl h1⟩)⟩

theorem run_path {G : Net} {W : Int} {h : Nat → Int} {t : Nat} {b : Int} {A : AS} {p : List Nat} {c k e : Int} (r : ARun G W h t b A p c k e) : e = 0 → p ≠ [] := by
  induction r with
  | none _ => intro h; cases h
  | full _ _ _ => intro h; cases h
  | found _ _ hc => intro _ h; cases hc <;> simp at h
  | next _ _ _ _ ih => exact ih

/-- With another budget. -/
theorem srch_budget {W H : Int} {l : List Int} {x y tx ty b : Int} {p1 p2 : List Nat} {c1 c2 k1 k2 e1 e2 : Int} (h1 : Srch W H l x y tx ty l.length p1 c1 k1 e1) (h2 : Srch W H l x y tx ty b p2 c2 k2 e2) :
    (e1 ≠ 0 ∧ e1 ≠ 22 ∧ e2 = e1 ∧ p2 = [] ∧ k2 = 0) ∨
    ((e1 = 0 ∨ e1 = 22) ∧ b < 0 ∧ e2 = 1 ∧ p2 = [] ∧ k2 = 0) ∨
    ((e1 = 0 ∨ e1 = 22) ∧ 0 ≤ b ∧ b < k1 ∧ e2 = 23 ∧ p2 = [] ∧ c2 = 0 ∧ k2 = b) ∨
    ((e1 = 0 ∨ e1 = 22) ∧ 0 ≤ b ∧ k1 ≤ b ∧ e2 = e1 ∧ p2 = p1 ∧ c2 = c1 ∧ k2 = k1) := by
  rcases h1 with ⟨n1, rfl, rfl, rfl, rfl⟩ | ⟨n1, L, s1⟩
  · -- refused
    have hv : findE W H l.length x y tx ty (l.length : Nat) = 10 ∨ findE W H l.length x y tx ty (l.length : Nat) = 12 := by
      revert n1
      unfold findE checkE
      repeat' split
      all_goals (first | omega | (intro h; exact absurd rfl h) | simp)
    left
    refine ⟨n1, by omega, ?_⟩
    rcases h2 with ⟨n2, rfl, rfl, rfl, rfl⟩ | ⟨n2, L, s2⟩
    · refine ⟨?_, rfl, rfl⟩
      revert n1 n2
      unfold findE
      repeat' split
      all_goals (first | omega | simp)
    · exfalso
      obtain ⟨a1, a2, a3, a4⟩ := findE_ok.1 n2
      exact n1 (findE_ok.2 ⟨a1, a2, a3, by omega⟩)
  · obtain ⟨a1, a2, a3, a4⟩ := findE_ok.1 n1
    rcases h2 with ⟨n2, rfl, rfl, rfl, rfl⟩ | ⟨n2, L2, s2⟩
    · -- the budget is below 0
      have hb : b < 0 := by
        by_cases h : 0 ≤ b
        · exact absurd (findE_ok.2 ⟨a1, a2, a3, h⟩) n2
        · omega
      have he : findE W H l.length x y tx ty b = 1 := by
        unfold findE
        rw [if_pos a1, if_pos ⟨a2, a3⟩, if_pos hb]
      right; left
      refine ⟨?_, hb, he, rfl, rfl⟩
      by_cases ho : (mapNet L).op (idxN W (x, y)) = true
      · obtain ⟨D, F⟩ := far_ex _ _ ho
        rcases (s1.ends (netOk L _) F).2.2 with h | h | h
        · exact .inl h.1
        · exact .inr h.1
        · exfalso
          have : (mapNet L).n = l.length := rfl
          omega
      · rcases s1 with h | h
        · exact absurd h.1 ho
        · exact .inr h.2.2.2.2
    · obtain ⟨_, _, _, hb⟩ := findE_ok.1 n2
      rcases s1 with ⟨o1, o2, r1⟩ | ⟨no, rfl, rfl, rfl, rfl⟩
      · obtain ⟨D, F⟩ := far_ex _ _ o1
        have hE := SrchN.ends (netOk L _) (.inl ⟨o1, o2, r1⟩) F
        have h23 : e1 ≠ 23 := fun h => by
          have : (mapNet L).n = l.length := rfl
          rcases hE.2.2 with h' | h' | h'
          · have := h'.1; omega
          · have := h'.1; omega
          · omega
        have he1 : e1 = 0 ∨ e1 = 22 := by
          rcases hE.2.2 with h' | h' | h'
          · exact .inl h'.1
          · exact .inr h'.1
          · exact absurd h'.1 h23
        have hB := run_budget r1 h23 (b := b) hb
        by_cases hk : b < k1
        · obtain ⟨rfl, rfl, rfl, rfl⟩ := SrchN.one L.wh.1 s2 (.inl ⟨o1, o2, hB.1 hk⟩)
          exact .inr (.inr (.inl ⟨he1, hb, hk, rfl, rfl, rfl, rfl⟩))
        · obtain ⟨rfl, rfl, rfl, rfl⟩ := SrchN.one L.wh.1 s2 (.inl ⟨o1, o2, hB.2 (by omega)⟩)
          exact .inr (.inr (.inr ⟨he1, hb, by omega, rfl, rfl, rfl, rfl⟩))
      · rcases s2 with ⟨o1, o2, _⟩ | ⟨_, rfl, rfl, rfl, rfl⟩
        · exact absurd ⟨o1, o2⟩ no
        · exact .inr (.inr (.inr ⟨.inr rfl, hb, hb, rfl, rfl, rfl, rfl⟩))

theorem full_ends {W H : Int} {l : List Int} (L : LandP W H l 0 0 W H) {s t : Nat} {p : List Nat} {c k e : Int} (h : SrchN (mapNet L) W s t l.length p c k e) :
    (e = 0 ∧ p ≠ [] ∧ (mapNet L).op s = true ∧ (mapNet L).op t = true ∧ ∃ D, IsFar (mapNet L) s D ∧ Found (mapNet L) D s t p c) ∨ (e = 22 ∧ p = [] ∧ c = 0 ∧ ∀ d, Way (mapNet L) s t d → infI ≤ d) := by
  by_cases ho : (mapNet L).op s = true
  · obtain ⟨D, F⟩ := far_ex _ _ ho
    rcases (h.ends (netOk L _) F).2.2 with ⟨a1, a2, a3⟩ | ⟨a1, a2, a3, a4⟩ | a
    · refine .inl ⟨a1, ?_, ho, F.open_ a3.fin, D, F, a3⟩
      rcases h with h | h
      · exact run_path h.2.2 a1
      · rw [a1] at h; exact absurd h.2.2.2.2 (by decide)
    · refine .inr ⟨a1, a2, a3, fun d hw => ?_⟩
      rcases a4 with a4 | a4
      · exact absurd ⟨hw.ends.1, hw.ends.2.1⟩ a4
      · by_cases hd : d < infI
        · have := F.le_way hw hd
          omega
        · omega
    · exfalso
      have : (mapNet L).n = l.length := rfl
      omega
  · rcases h with h | ⟨h1, h2, h3, h4, h5⟩
    · exact absurd h.1 ho
    · exact .inr ⟨h5, h2, h3, fun d hw => absurd hw.ends.1 ho⟩

/-- There and back. -/
theorem srch_own {W H : Int} {l : List Int} {x y tx ty : Int} {p1 p2 : List Nat} {c1 c2 k1 k2 e1 e2 : Int} (h1 : Srch W H l x y tx ty l.length p1 c1 k1 e1) (h2 : Srch W H l tx ty x y l.length p2 c2 k2 e2) :
    e1 = e2 ∧ ((e1 ≠ 0 ∧ p1 = [] ∧ p2 = []) ∨ (e1 = 0 ∧ p1 ≠ [] ∧ inB W H x y = true ∧ inB W H tx ty = true ∧ LandP W H l 0 0 W H ∧ c1 + l.getD (idxN W (x, y)) 0 = c2 + l.getD (idxN W (tx, ty)) 0 ∧ 0 ≤ c1 ∧ c1 ≤ 1000000000000 ∧ 0 ≤ c2 ∧ c2 ≤ 1000000000000)) := by
  have hsw : findE W H l.length tx ty x y l.length = findE W H l.length x y tx ty l.length := by
    unfold findE
    split
    · by_cases k : inB W H x y = true ∧ inB W H tx ty = true
      · rw [if_pos k, if_pos ⟨k.2, k.1⟩]
      · rw [if_neg k, if_neg (fun e => k ⟨e.2, e.1⟩)]
    · rfl
  rcases h1 with ⟨n1, rfl, rfl, rfl, rfl⟩ | ⟨n1, L, s1⟩
  · rcases h2 with ⟨n2, rfl, rfl, rfl, rfl⟩ | ⟨n2, _⟩
    · exact ⟨hsw.symm, .inl ⟨n1, rfl, rfl⟩⟩
    · exact absurd (hsw.symm.trans n2) n1
  · rcases h2 with ⟨n2, _⟩ | ⟨n2, _, s2⟩
    · exact absurd (hsw.trans n1) n2
    · obtain ⟨a1, a2, a3, a4⟩ := findE_ok.1 n1
      have N := netOk L (idxN W (x, y))
      rcases full_ends L s1 with ⟨e1, q1, o1, o2, D1, F1, f1⟩ | ⟨e1, q1, _, w1⟩
      · rcases full_ends L s2 with ⟨e2, q2, _, _, D2, F2, f2⟩ | ⟨e2, q2, _, w2⟩
        · have b1 := IsFar.backs N.few F1 F2 (far_low F1) f1.fin
          have b2 := IsFar.backs N.few F2 F1 (far_low F2) f2.fin
          have l1 := far_low F1 _ f1.fin
          have l2 := far_low F2 _ f2.fin
          have g1 := F1.nn (idxN W (tx, ty))
          have g2 := F2.nn (idxN W (x, y))
          have hf := N.few
          have j1 := f1.cost
          have j2 := f2.cost
          refine ⟨e1.trans e2.symm, .inr ⟨e1, q1, a2, a3, L, ?_, ?_, ?_, ?_, ?_⟩⟩
          · show c1 + (mapNet L).cost _ = c2 + (mapNet L).cost _
            omega
          all_goals omega
        · exfalso
          have wb := (F1.way_of f1.fin).back
          have := w2 _ wb
          have l1 := far_low F1 _ f1.fin
          have hf := N.few
          have := (mapNet L).top _ o1
          have := (mapNet L).pos _ o2
          have : infI = 18446744073709551615 := rfl
          omega
      · rcases full_ends L s2 with ⟨e2, q2, o1, o2, D2, F2, f2⟩ | ⟨e2, q2, _, w2⟩
        · exfalso
          have wb := (F2.way_of f2.fin).back
          have := w1 _ wb
          have l1 := far_low F2 _ f2.fin
          have hf := N.few
          have := (mapNet L).top _ o1
          have := (mapNet L).pos _ o2
          have : infI = 18446744073709551615 := rfl
          omega
        · exact ⟨e1.trans e2.symm, .inl ⟨by omega, q1, q2⟩⟩

/-- A way where all costs turn, but nothing is shut. -/
theorem Way.dear {G K : Net} (ho : ∀ v, G.op v = true → K.op v = true) (ha : ∀ u v, G.op u = true → G.op v = true → u ∈ G.adj v → u ∈ K.adj v) {s v : Nat} {c : Int} (h : Way G s v c) : ∃ d, d ≤ 65535 * c ∧ Way K s v d := by
  induction h with
  | start h => exact ⟨0, by omega, .start (ho _ h)⟩
  | step w hu hov ih =>
    obtain ⟨d, h1, h2⟩ := ih
    have := K.top _ (ho _ hov)
    have := G.pos _ hov
    exact ⟨_, by omega, Way.step h2 (ha _ _ w.ends.2.1 hov hu) (ho _ hov)⟩

theorem adj_mono {W H : Int} {l l' : List Int} (L : LandP W H l 0 0 W H) (L' : LandP W H l' 0 0 W H) {u x : Nat} (h : x ∈ (mapNet L).adj u) (hx : 0 < l'.getD x 0) : x ∈ (mapNet L').adj u := by
  obtain ⟨p, hp, rfl⟩ := List.mem_map.1 h
  obtain ⟨k, hk, ho, rfl⟩ := mem_nbC.1 hp
  refine List.mem_map.2 ⟨_, mem_nbC.2 ⟨k, hk, ?_, rfl⟩, rfl⟩
  unfold openB
  rw [(open_has ho).1, cost_idx]
  simpa using hx

theorem run_few {G : Net} {W : Int} {h : Nat → Int} {t s : Nat} {b : Int} {A : AS} {D : Nat → Int} {p : List Nat} {c k e : Int} (r : ARun G W h t b A p c k e) (I : SInv G D s A (fun _ _ => False)) (F : IsFar G s D) (hn : G.n ≤ 1000000) (hg : Guess G h) (hadj : ∀ v m, m ∈ G.adj v → G.op m = true) : p.Nodup ∧ ∀ u, u ∈ p → G.op u = true := by
  induction r with
  | none h0 => exact ⟨List.nodup_nil, fun u hu => by cases hu⟩
  | full v hv hc => exact ⟨List.nodup_nil, fun u hu => by cases hu⟩
  | found hB hb hc =>
    rename_i A l
    have h1 := sinv_best I F hn hg hB
    have h0 := F.nn t
    have h2 := hB.1
    obtain ⟨l2, c1, c2, c3⟩ := chain_ex I (A.g t).toNat t (by omega) (by omega)
    have := hc.one c1
    subst this
    exact ⟨List.pairwise_reverse.2 (c3.imp (fun h => Ne.symm h)), fun u hu => I.op u (c2 u (List.mem_reverse.1 hu)).1⟩
  | next hB hb hv r ih => exact ih (sinv_step I F hn hg hadj hB)

theorem SrchN.path {G : Net} {W : Int} {s t : Nat} (N : NetOk G W t) {b : Int} {p : List Nat} {c k e : Int} (h : SrchN G W s t b p c k e) : p.length ≤ G.n ∧ ∀ u, u ∈ p → G.op u = true := by
  rcases h with ⟨h1, h2, h3⟩ | ⟨h1, rfl, rfl, rfl, rfl⟩
  · obtain ⟨D, F⟩ := far_ex _ _ h1
    obtain ⟨a, b⟩ := run_few h3 (sinv_start h1 F) F N.few N.guess N.adj
    exact ⟨nodup_le a (fun u hu => G.lt u (b u hu)), b⟩
  · exact ⟨Nat.zero_le _, fun u hu => by cases hu⟩

/-- Where all costs as much or more. -/
theorem srch_more {W H : Int} {l l' : List Int} (hlen : l'.length = l.length) (hm : ∀ v, 0 < l'.getD v 0 → 0 < l.getD v 0 ∧ l.getD v 0 ≤ l'.getD v 0) (j : Nat) (hj : ∀ v, v ≠ j → l'.getD v 0 = l.getD v 0) {x y tx ty : Int} {p1 p2 : List Nat} {c1 c2 k1 k2 e1 e2 : Int} (h1 : Srch W H l x y tx ty l.length p1 c1 k1 e1) (h2 : Srch W H l' x y tx ty l'.length p2 c2 k2 e2) :
    (e1 ≠ 0 ∧ e2 = e1 ∧ p2 = []) ∨ (e1 = 0 ∧ p1.length ≤ l.length ∧ (∀ u, u ∈ p1 → u < l.length) ∧ (j ∉ p1 → e2 = 0 ∧ c2 = c1) ∧ ((e2 = 0 ∧ c1 ≤ c2) ∨ (e2 = 22 ∧ l'.getD j 0 = 0 ∧ p2 = []))) := by
  have hu' := h2
  unfold Srch at hu'
  rw [hlen] at hu'
  rcases h1 with ⟨n1, rfl, rfl, rfl, rfl⟩ | ⟨n1, L, s1⟩
  · rcases hu' with ⟨n2, rfl, rfl, rfl, rfl⟩ | ⟨n2, _⟩
    · exact .inl ⟨n1, rfl, rfl⟩
    · exact absurd n2 n1
  · rcases hu' with ⟨n2, _⟩ | ⟨n2, L', s2⟩
    · exact absurd n1 n2
    · have N := netOk L (idxN W (tx, ty))
      have hinf : infI = 18446744073709551615 := rfl
      have hsub : (mapNet L').Sub (mapNet L) := ⟨fun v hv => by
          obtain ⟨a, b⟩ := (op_iff L' v).1 hv
          exact (op_iff L v).2 ⟨by omega, (hm v b).1⟩, fun v hv => (hm v ((op_iff L' v).1 hv).2).2, fun u v hu _ ha => adj_mono L' L ha (hm u ((op_iff L' u).1 hu).2).1⟩
      rw [← hlen] at s2
      rcases full_ends L s1 with ⟨rfl, q1, o1, o2, D1, F1, f1⟩ | ⟨rfl, q1, _, w1⟩
      · right
        have hp := s1.path N
        have l1 := far_low F1 _ f1.fin
        have hf := N.few
        refine ⟨rfl, hp.1, fun u hu => (mapNet L).lt u (hp.2 u hu), ?_, ?_⟩
        · intro hnot
          have hw : Way (mapNet L') (idxN W (x, y)) (idxN W (tx, ty)) c1 := f1.way (mapNet L') (fun u hu => by
            have hne : u ≠ j := fun e => hnot (e ▸ hu)
            have ho := (op_iff L u).1 (hp.2 u hu)
            exact ⟨(op_iff L' u).2 ⟨by omega, by rw [hj u hne]; exact ho.2⟩, hj u hne⟩) (fun u z hu hz ha => by
            have hne : z ≠ j := fun e => hnot (e ▸ hz)
            have ho := (op_iff L z).1 (hp.2 z hz)
            exact adj_mono L L' ha (by rw [hj z hne]; exact ho.2))
          have hcl : c1 < infI := by have := f1.cost; have := f1.fin; omega
          rcases full_ends L' s2 with ⟨rfl, q2, _, _, D2, F2, f2⟩ | ⟨rfl, q2, _, w2⟩
          · refine ⟨rfl, ?_⟩
            have a1 := F2.le_way hw hcl
            have a2 := F2.sub_le hsub F1 (idxN W (tx, ty))
            have := f1.cost
            have := f2.cost
            omega
          · have := w2 _ hw
            omega
        · rcases full_ends L' s2 with ⟨rfl, q2, _, _, D2, F2, f2⟩ | ⟨rfl, q2, _, w2⟩
          · have a2 := F2.sub_le hsub F1 (idxN W (tx, ty))
            have := f1.cost
            have := f2.cost
            exact .inl ⟨rfl, by omega⟩
          · refine .inr ⟨rfl, ?_, q2⟩
            by_cases h0 : 0 < l'.getD j 0
            · exfalso
              have hpos : ∀ v, 0 < l.getD v 0 → 0 < l'.getD v 0 := fun v hv => by
                by_cases e : v = j
                · rw [e]; exact h0
                · rw [hj v e]; exact hv
              obtain ⟨d, hd, hw⟩ := (F1.way_of f1.fin).dear (K := mapNet L') (fun v hv => by
                obtain ⟨a, b⟩ := (op_iff L v).1 hv
                exact (op_iff L' v).2 ⟨by omega, hpos v b⟩) (fun u v hu _ ha => adj_mono L L' ha (hpos u ((op_iff L u).1 hu).2))
              have := w2 _ hw
              omega
            · have := (costI_bd L'.u16 W (vx W j, vy W j)).1
              rw [L'.cost_v j] at this
              omega
      · left
        refine ⟨by decide, ?_⟩
        rcases full_ends L' s2 with ⟨rfl, q2, _, _, D2, F2, f2⟩ | ⟨rfl, q2, _, w2⟩
        · exfalso
          obtain ⟨d, hd, hw⟩ := (F2.way_of f2.fin).sub hsub
          have := w1 _ hw
          have := f2.fin
          omega
        · exact ⟨rfl, q2⟩
end Go.Proofs.Ytifbmapianddcaa
