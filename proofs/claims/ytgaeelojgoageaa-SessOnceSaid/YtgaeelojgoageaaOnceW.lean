/- The walk of the statement SessOnce. -/
import Derived.Test.YtgaeelojgoageaaSessD
import Derived.Deep.CutBlock
namespace Go.Proofs.Ytgaeelojgoageaa
open Go.RowKit

/-- What holds of the law's own rows and counts. -/
structure Right (most : Int) (row ever now closed : List Int) (dr : Int) (m : Nat) : Prop where
  few : (now.length : Int) ≤ most
  iff : ∀ x, x ∈ now ↔ x ∈ ever ∧ x ∉ closed
  sub : ∀ x ∈ closed, x ∈ ever
  len : now.length + closed.length = ever.length
  left : (row.length : Int) + ever.length ≤ dr
  bd : dr ≤ (m : Int)

def Play (b : Nat) (w0 w : World) (d n e : Nat) (most : Int) (m : Nat) (vo vc vd : Value) : Prop :=
  ∃ row ever now closed dr, vd = .int .i64 dr ∧ Inv b w0 w d n e most row ever now vo vc ever closed ∧ Right most row ever now closed dr m

def ActsAt (w : World) (b off : Nat) (l : List (Int × Int)) : Prop := ∀ k (h : k < l.length), w.cell? ⟨b, off + k * 2, none⟩ = some (.int .i64 l[k].1) ∧ w.cell? ⟨b, off + k * 2 + 1, none⟩ = some (.int .u64 l[k].2)

set_option maxRecDepth 100000 in
theorem once_no (most : Int) (lv : Value) (w : World) (h : most < 1 ∨ 4 < most) : Calls Try.prog 3 #[.int .i64 most, lv] w fun e w' => e = .returned (.bool true) ∧ Ext w w' := by
  go_enter Try.func3, Try.ntmps3
  go_wp2_with (first
    | (go_at_call 9; refine (sNew_no most _ h).mono ?_; rintro e w' ⟨rfl, rfl⟩)
    | (go_at_call 10; refine (awake21_any _).mono ?_; rintro e w1 ⟨rfl, hb1⟩; obtain ⟨hc1, hf1⟩ := hb1.cells; have hz1 := hb1.size; (repeat (first | rw [World.size_alloc] at hz1 | rw [World.size_drew] at hz1))))
  go_ret
  exact ⟨rfl, (by (with_reducible (repeat' (first | exact Ext.refl _ | assumption | refine Ext.drew ?_ | refine Ext.drewN ?_ _ | refine Ext.alloc ?_ _ | refine Ext.setCell ?_ ?_ _ | refine Ext.trans ?_ (by assumption)))); all_goals (first | (simp; done) | (simp; omega)))⟩

set_option maxRecDepth 100000 in
theorem once_long (most : Int) (a : Option Addr) (q c : Nat) (w : World) (h1 : 1 ≤ most) (h2 : most ≤ 4) (hq : (200 : Int) < (q : Int)) : Calls Try.prog 3 #[.int .i64 most, .slice a q c] w fun e w' => e = .returned (.bool true) ∧ Ext w w' := by
  go_enter Try.func3, Try.ntmps3
  go_wp2_with (first
    | (go_at_call 9; refine (iNew most _ h1 h2).mono ?_; rintro x w1 ⟨d, n, e, rfl, i1⟩; have I1 := hide i1; clear i1)
    | (go_at_call 10; refine (awake21_any _).mono ?_; rintro e w2 ⟨rfl, hb2⟩; obtain ⟨hc2, hf2⟩ := hb2.cells; have hz2 := hb2.size; (repeat (first | rw [World.size_alloc] at hz2 | rw [World.size_drew] at hz2))))
  go_ret
  exact ⟨rfl, Ext.trans I1.out.bel (by (with_reducible (repeat' (first | exact Ext.refl _ | assumption | refine Ext.drew ?_ | refine Ext.drewN ?_ _ | refine Ext.alloc ?_ _ | refine Ext.setCell ?_ ?_ _ | refine Ext.trans ?_ (by assumption)))); all_goals (first | (simp; done) | (simp; omega)))⟩

theorem Right.draw {most : Int} {row ever now closed : List Int} {dr : Int} {m : Nat} (h : Right most row ever now closed dr m) (x : Int) : Right most (row ++ [x]) ever now closed (dr + 1) (m + 1) :=
  ⟨h.few, h.iff, h.sub, h.len, by have := h.left; rw [List.length_append]; simp; omega, by have := h.bd; omega⟩
theorem Right.same {most : Int} {row ever now closed : List Int} {dr : Int} {m : Nat} (h : Right most row ever now closed dr m) : Right most row ever now closed dr (m + 1) :=
  ⟨h.few, h.iff, h.sub, h.len, h.left, by have := h.bd; omega⟩
theorem Right.retry {most : Int} {t : Int} {row ever now closed : List Int} {dr : Int} {m : Nat} (h : Right most (t :: row) ever now closed dr m) : Right most row ever now closed dr (m + 1) :=
  ⟨h.few, h.iff, h.sub, h.len, by have := h.left; simp at this; omega, by have := h.bd; omega⟩
theorem Right.opened {most : Int} {t : Int} {row ever now closed : List Int} {dr : Int} {m : Nat} (h : Right most (t :: row) ever now closed dr m) (hm : (now.length : Int) < most) (ht : t ∉ ever) : Right most row (ever ++ [t]) (now ++ [t]) closed dr (m + 1) := by
  refine ⟨by rw [List.length_append]; simp; omega, fun x => ?_, fun x hx => by simp [h.sub x hx], by have := h.len; simp; omega, by have := h.left; simp at this ⊢; omega, by have := h.bd; omega⟩
  have hc : t ∉ closed := fun hx => ht (h.sub t hx)
  simp only [List.mem_append, List.mem_singleton, h.iff x]
  constructor
  · rintro (⟨h1, h2⟩ | rfl)
    · exact ⟨.inl h1, h2⟩
    · exact ⟨.inr rfl, hc⟩
  · rintro ⟨h1 | rfl, h2⟩
    · exact .inl ⟨h1, h2⟩
    · exact .inr rfl
theorem Right.shut {most : Int} {row ever now closed : List Int} {dr : Int} {m : Nat} (h : Right most row ever now closed dr m) (hs : Sound ever now) {x : Int} (hx : x ∈ now) : Right most row ever (now.erase x) (closed ++ [x]) dr (m + 1) := by
  have hpos : 0 < now.length := List.length_pos_of_mem hx
  refine ⟨?_, fun y => ?_, fun y hy => ?_, ?_, h.left, by have := h.bd; omega⟩
  · have := h.few; rw [List.length_erase_of_mem hx]; omega
  · rw [hs.nodup'.mem_erase_iff, h.iff y]
    simp only [List.mem_append, List.mem_singleton, not_or]
    constructor
    · rintro ⟨h1, h2, h3⟩; exact ⟨h2, h3, h1⟩
    · rintro ⟨h1, h2, h3⟩; exact ⟨h3, h1, h2⟩
  · rcases List.mem_append.1 hy with hy | hy
    · exact h.sub y hy
    · simp at hy; subst hy; exact ((h.iff y).1 hx).1
  · have := h.len; rw [List.length_erase_of_mem hx, List.length_append]; simp; omega

theorem iLeft_cons {b : Nat} {w0 w : World} {d n e : Nat} {most t : Int} {r ever now : List Int} {vo vc : Value} {opened closed : List Int} (h : Inv b w0 w d n e most (t :: r) ever now vo vc opened closed) : Calls Try.prog 12 #[.pointer (some ⟨d, 0, none⟩)] w fun x w' => x = .returned (.int .i64 ((r.length : Int) + 1)) ∧ w = w' := by
  have := iLeft h
  simpa using this

set_option maxRecDepth 100000 in
set_option maxHeartbeats 4000000 in
theorem once_plays (most : Int) (b off c : Nat) (l : List (Int × Int)) (w : World) (h1 : 1 ≤ most) (h2 : most ≤ 4) (hl : (l.length : Int) ≤ 200) (hb : b < w.heap.size) (hA : ActsAt w b off l) (hU : ∀ k (h : k < l.length), U64 l[k].2) :
    Calls Try.prog 3 #[.int .i64 most, .slice (some ⟨b, off, none⟩) l.length c] w fun e w' => e = .returned (.bool true) ∧ Ext w w' := by
  have HA := hide hA
  have HU := hide hU
  clear hA hU
  go_enter Try.func3, Try.ntmps3
  go_wp2_with (go_at_call 9; refine (iNew most _ h1 h2).mono ?_; rintro x w1 ⟨d, n, e, rfl, i1⟩; have I1 := hide i1; clear i1)
  go_loopw [7, 8, 9, 10] (fun o cl dr i wr => ∃ k : Nat, k ≤ l.length ∧ i = .int .i64 k ∧ Play w.heap.size w wr d n e most k o cl dr) (fun _ _ _ i _ => l.length - (intOf i).toNat)
  case atStart => exact ⟨0, Nat.zero_le _, rfl, [], [], [], [], 0, rfl, I1.out, ⟨by simp; omega, by simp, by simp, rfl, by simp, by simp⟩⟩
  case round =>
    obtain ⟨k, hk, rfl, row, ever, now, closed, dr, rfl, hI, hR⟩ := hrel
    obtain ⟨ao, co, rfl⟩ := hI.oo.slice
    obtain ⟨ac, cc, rfl⟩ := hI.oc.slice
    have I := hide hI
    have R := hide hR
    have r1 := hR.few
    have r2 : now.length ≤ ever.length := by have := hR.len; omega
    have r5 : closed.length ≤ ever.length := by have := hR.len; omega
    have r3 := hR.left
    have r4 := hR.bd
    have hx : Ext w wr := hI.bel
    clear hI hR
    by_cases hlt : k < l.length
    · obtain ⟨d0, d1⟩ := HA.out k hlt
      have e0 := (hx.cell (p := ⟨b, off + k * 2, none⟩) hb).trans d0
      have e1 := (hx.cell (p := ⟨b, off + k * 2 + 1, none⟩) hb).trans d1
      have UX := hide (HU.out k hlt)
      generalize l[k].1 = kd at *
      generalize l[k].2 = x at *
      clear d0 d1 hx
      go_upto_block 2 with (fail)
      go_cut [7, 8, 9] (fun o cl dr wx => Play w.heap.size w wx d n e most (k + 1) o cl dr)
      case first =>
        as_aux_lemma =>
          by_cases k0 : kd = 0
          · subst k0
            go_wp2_with (go_at_call 11; refine (iDraw_ok I.out (by omega) x UX.out).mono ?_; rintro r w2 ⟨rfl, i2⟩; have I2 := hide i2; clear i2)
            go_meet
            exact ⟨_, _, _, _, _, rfl, I2.out, R.out.draw x⟩
          · by_cases k1 : kd = 1
            · subst k1
              by_cases hm : most ≤ (now.length : Int)
              · have hEq : ((now.length : Int) != most) = false := by simp; omega
                go_wp2_with (first
                  | (go_at_call 12; refine (iLeft (by first | exact I.out | exact I2.out)).mono ?_; rintro r w9 ⟨rfl, rfl⟩)
                  | (go_at_call 13; refine (iOpen_full I.out hm).mono ?_; rintro r w2 ⟨rfl, i2⟩; have I2 := hide i2; clear i2)
                  | (go_at_call 15; refine (iCount I2.out).mono ?_; rintro r w9 ⟨rfl, rfl⟩))
                go_meet
                exact ⟨_, _, _, _, _, rfl, I2.out, R.out.same⟩
              · have hm' : (now.length : Int) < most := by omega
                rcases row with _ | ⟨t, r⟩
                · go_wp2_with (first
                    | (go_at_call 12; refine (iLeft I.out).mono ?_; rintro r w9 ⟨rfl, rfl⟩)
                    | (go_at_call 13; refine (iOpen_none I.out hm').mono ?_; rintro r w2 ⟨rfl, i2⟩; have I2 := hide i2; clear i2))
                  go_meet
                  exact ⟨_, _, _, _, _, rfl, I2.out, R.out.same⟩
                · simp only [List.length_cons] at r3
                  by_cases ht : t ∈ ever ∨ t = 0
                  · have HT := hide ht
                    clear ht
                    go_wp2_with (first
                      | (go_at_call 12; first | (refine (iLeft_cons I.out).mono ?_; rintro r w9 ⟨rfl, rfl⟩) | (refine (iLeft I2.out).mono ?_; rintro r w9 ⟨rfl, rfl⟩))
                      | (go_at_call 13; refine (iOpen_retry I.out hm' (by omega) HT.out).mono ?_; rintro x9 w2 ⟨rfl, i2⟩; have I2 := hide i2; clear i2))
                    go_meet
                    exact ⟨_, _, _, _, _, rfl, I2.out, R.out.retry⟩
                  · have HT := hide (show t ∉ ever from fun h => ht (.inl h))
                    have ht0 : (t == 0) = false := by simp; exact fun h => ht (.inr h)
                    have hin := hide (show decide (t ∈ ever) = false by simpa using HT.out)
                    clear ht
                    go_wp2_with (first
                      | (go_at_call 12; first | (refine (iLeft_cons I.out).mono ?_; rintro r w9 ⟨rfl, rfl⟩) | (refine (iLeft I2.out).mono ?_; rintro r w9 ⟨rfl, rfl⟩))
                      | (go_at_call 13; refine (iOpen_ok I.out hm' (by omega) (by omega) HT.out ht0).mono ?_; rintro x9 w2 ⟨rfl, i2⟩; have I2 := hide i2; clear i2)
                      | (go_at_call 14; refine (in_any t _ ever _ (by omega) I2.out.oo.reads).mono ?_; rintro x9 w9 ⟨rfl, rfl⟩; rw [hin.out])
                      | (at_builtin; refine wpList_app_at u64E T_u64s rfl _ _ rfl w.heap.size _ _ ever rfl I2.out.oo t _ _ rfl _ rfl rfl (by omega) (by omega) I2.out.hb ?_; intro g9 c9 w9 o9 t9 l9; have I9 := hide (I2.out.app_o o9 t9 l9); clear o9 t9 l9))
                    go_meet
                    exact ⟨_, _, _, _, _, rfl, I9.out, R.out.opened hm' HT.out⟩
            · by_cases k2 : kd = 2
              · subst k2
                by_cases hx : x ∈ now
                · have hxe := hide (show decide (x ∈ ever) = true by simpa using ((R.out.iff x).1 hx).1)
                  have hxc := hide (show decide (x ∈ closed) = false by simpa using ((R.out.iff x).1 hx).2)
                  have HX := hide hx
                  clear hx
                  go_wp2_with (first
                    | (go_at_call_of 14 (Value.slice ao ever.length co); refine (in_any x _ ever _ (by omega) I.out.oo.reads).mono ?_; rintro x9 w9 ⟨rfl, rfl⟩; rw [hxe.out])
                    | (go_at_call_of 14 (Value.slice ac closed.length cc); refine (in_any x _ closed _ (by omega) I.out.oc.reads).mono ?_; rintro x9 w9 ⟨rfl, rfl⟩; rw [hxc.out])
                    | (go_at_call 16; refine (iClose_ok I.out x UX.out HX.out).mono ?_; rintro x9 w2 ⟨rfl, i2⟩; have I2 := hide i2; clear i2)
                    | (at_builtin; refine wpList_app_at u64E T_u64s rfl _ _ rfl w.heap.size _ _ closed rfl I2.out.oc x _ _ rfl _ rfl rfl (by omega) (by omega) I2.out.hb ?_; intro g9 c9 w9 o9 t9 l9; have I9 := hide (I2.out.app_c o9 t9 l9); clear o9 t9 l9))
                  go_meet
                  obtain ⟨v9, D9, _⟩ := I.out.ex
                  exact ⟨_, _, _, _, _, rfl, I9.out, R.out.shut D9.sound HX.out⟩
                · have HX := hide hx
                  by_cases hxe' : x ∈ ever
                  · have hxe := hide (show decide (x ∈ ever) = true by simpa using hxe')
                    have hxc := hide (show decide (x ∈ closed) = true by
                      rw [decide_eq_true_eq]
                      exact Classical.byContradiction fun hc => HX.out ((R.out.iff x).2 ⟨hxe', hc⟩))
                    clear hx hxe'
                    go_wp2_with (first
                      | (go_at_call_of 14 (Value.slice ao ever.length co); refine (in_any x _ ever _ (by omega) I.out.oo.reads).mono ?_; rintro x9 w9 ⟨rfl, rfl⟩; rw [hxe.out])
                      | (go_at_call_of 14 (Value.slice ac closed.length cc); refine (in_any x _ closed _ (by omega) I.out.oc.reads).mono ?_; rintro x9 w9 ⟨rfl, rfl⟩; rw [hxc.out])
                      | (go_at_call 16; refine (iClose_no I.out x UX.out HX.out).mono ?_; rintro x9 w9 ⟨rfl, rfl⟩))
                    go_meet
                    exact ⟨_, _, _, _, _, rfl, I.out, R.out.same⟩
                  · have hxe := hide (show decide (x ∈ ever) = false by simpa using hxe')
                    clear hx hxe'
                    go_wp2_with (first
                      | (go_at_call_of 14 (Value.slice ao ever.length co); refine (in_any x _ ever _ (by omega) I.out.oo.reads).mono ?_; rintro x9 w9 ⟨rfl, rfl⟩; rw [hxe.out])
                      | (go_at_call 16; refine (iClose_no I.out x UX.out HX.out).mono ?_; rintro x9 w9 ⟨rfl, rfl⟩))
                    go_meet
                    exact ⟨_, _, _, _, _, rfl, I.out, R.out.same⟩
              · go_wp2
                go_meet
                exact ⟨_, _, _, _, _, rfl, I.out, R.out.same⟩
      case rest =>
        as_aux_lemma =>
          clear e0 e1 I R r1 r2 r3 r4 r5
          obtain ⟨row, ever, now, closed, dr, rfl, hI, hR⟩ := hcut
          obtain ⟨ao, co, rfl⟩ := hI.oo.slice
          obtain ⟨ac, cc, rfl⟩ := hI.oc.slice
          have I := hide hI
          have R := hide hR
          have r1 := hR.few
          have r3 := hR.left
          have r4 := hR.bd
          have r6 : ever.length ≤ 1000 := by omega
          have r7 : closed.length ≤ ever.length := by have := hR.len; omega
          have HIS := hide (hR.iff x)
          clear hI hR
          have hcl : ((now.length : Int) != (ever.length : Int) - (closed.length : Int)) = false := by have := R.out.len; simp; omega
          have hlf : ¬ (dr - (ever.length : Int) < (row.length : Int)) := by omega
          have r7' : (closed.length : Int) ≤ (ever.length : Int) := by omega
          by_cases hxe' : x ∈ ever
          · have hxe := hide (show decide (x ∈ ever) = true by simpa using hxe')
            by_cases hxc' : x ∈ closed
            · have hxc := hide (show decide (x ∈ closed) = true by simpa using hxc')
              have hxn := hide (show decide (x ∈ now) = false by rw [decide_eq_false_iff_not, R.out.iff x]; exact fun h => h.2 hxc')
              clear hxe' hxc'
              go_wp2_with (first
                | (go_at_call 17; refine (iHas I.out x UX.out).mono ?_; rintro x9 w9 ⟨rfl, rfl⟩; rw [hxn.out])
                | (go_at_call_of 14 (Value.slice ao ever.length co); refine (in_any x _ ever _ (by omega) I.out.oo.reads).mono ?_; rintro x9 w9 ⟨rfl, rfl⟩; rw [hxe.out])
                | (go_at_call_of 14 (Value.slice ac closed.length cc); refine (in_any x _ closed _ (by omega) I.out.oc.reads).mono ?_; rintro x9 w9 ⟨rfl, rfl⟩; rw [hxc.out])
                | (go_at_call 15; refine (iCount I.out).mono ?_; rintro x9 w9 ⟨rfl, rfl⟩)
                | (go_at_call 12; refine (iLeft I.out).mono ?_; rintro x9 w9 ⟨rfl, rfl⟩))
              go_roundw
              all_goals first
                | exact ⟨k + 1, by omega, by go_num, _, _, _, _, _, rfl, I.out, R.out⟩
                | (simp [intOf]; done)
                | (simp [intOf]; omega)
                | exact ⟨⟨k + 1, by omega, by go_num, _, _, _, _, _, rfl, I.out, R.out⟩, by simp [intOf]; omega⟩
            · have hxc := hide (show decide (x ∈ closed) = false by simpa using hxc')
              have hxn := hide (show decide (x ∈ now) = true by rw [decide_eq_true_eq, R.out.iff x]; exact ⟨hxe', hxc'⟩)
              clear hxe' hxc'
              go_wp2_with (first
                | (go_at_call 17; refine (iHas I.out x UX.out).mono ?_; rintro x9 w9 ⟨rfl, rfl⟩; rw [hxn.out])
                | (go_at_call_of 14 (Value.slice ao ever.length co); refine (in_any x _ ever _ (by omega) I.out.oo.reads).mono ?_; rintro x9 w9 ⟨rfl, rfl⟩; rw [hxe.out])
                | (go_at_call_of 14 (Value.slice ac closed.length cc); refine (in_any x _ closed _ (by omega) I.out.oc.reads).mono ?_; rintro x9 w9 ⟨rfl, rfl⟩; rw [hxc.out])
                | (go_at_call 15; refine (iCount I.out).mono ?_; rintro x9 w9 ⟨rfl, rfl⟩)
                | (go_at_call 12; refine (iLeft I.out).mono ?_; rintro x9 w9 ⟨rfl, rfl⟩))
              go_roundw
              all_goals first
                | exact ⟨k + 1, by omega, by go_num, _, _, _, _, _, rfl, I.out, R.out⟩
                | (simp [intOf]; done)
                | (simp [intOf]; omega)
                | exact ⟨⟨k + 1, by omega, by go_num, _, _, _, _, _, rfl, I.out, R.out⟩, by simp [intOf]; omega⟩
          · have hxe := hide (show decide (x ∈ ever) = false by simpa using hxe')
            have hxn := hide (show decide (x ∈ now) = false by rw [decide_eq_false_iff_not, R.out.iff x]; exact fun h => hxe' h.1)
            clear hxe'
            go_wp2_with (first
              | (go_at_call 17; refine (iHas I.out x UX.out).mono ?_; rintro x9 w9 ⟨rfl, rfl⟩; rw [hxn.out])
              | (go_at_call_of 14 (Value.slice ao ever.length co); refine (in_any x _ ever _ (by omega) I.out.oo.reads).mono ?_; rintro x9 w9 ⟨rfl, rfl⟩; rw [hxe.out])
              | (go_at_call 15; refine (iCount I.out).mono ?_; rintro x9 w9 ⟨rfl, rfl⟩)
              | (go_at_call 12; refine (iLeft I.out).mono ?_; rintro x9 w9 ⟨rfl, rfl⟩))
            go_roundw
            all_goals first
              | exact ⟨k + 1, by omega, by go_num, _, _, _, _, _, rfl, I.out, R.out⟩
              | (simp [intOf]; done)
              | (simp [intOf]; omega)
              | exact ⟨⟨k + 1, by omega, by go_num, _, _, _, _, _, rfl, I.out, R.out⟩, by simp [intOf]; omega⟩
    · obtain rfl : k = l.length := by omega
      clear r2 r3 r4 r5
      go_wp2_with (go_at_call 10; refine (awake21_any _).mono ?_; rintro e w2 ⟨rfl, hb2⟩; obtain ⟨hc2, hf2⟩ := hb2.cells; have hz2 := hb2.size; (repeat (first | rw [World.size_alloc] at hz2 | rw [World.size_drew] at hz2)))
      go_ret
      exact ⟨rfl, Ext.trans hx (by (with_reducible (repeat' (first | exact Ext.refl _ | assumption | refine Ext.drew ?_ | refine Ext.drewN ?_ _ | refine Ext.alloc ?_ _ | refine Ext.setCell ?_ ?_ _ | refine Ext.trans ?_ (by assumption)))); all_goals (first | (simp; done) | (simp; omega)))⟩
end Go.Proofs.Ytgaeelojgoageaa
