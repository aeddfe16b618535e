/- Walk of slices.AppendSeq at rows of uint64, over whatever iterator with one block of its own. -/
import Derived.Test.YtifbmapianddcaaSessK
import Derived.Test.YtifbmapianddcaaSessA
set_option linter.all false
set_option linter.unusedVariables false
set_option linter.unusedSimpArgs false
namespace Go.Proofs.Ytifbmapianddcaa
open Go.RowKit
attribute [local go_sem] Oper.semAt_some

theorem Touch.past {S S' : Nat → Prop} {a b c : World} (h : Touch S a b) (k : Touch S' b c) (hs : ∀ k, k < a.heap.size → S' k → S k) : Touch S a c :=
  ⟨k.os.trans h.os, k.tape.trans h.tape, k.output.trans h.output, Nat.le_trans h.size k.size, fun i hi hn => (k.block i (Nat.lt_of_lt_of_le hi h.size) (fun hS => hn (hs i hi hS))).trans (h.block i hi hn)⟩

set_option maxRecDepth 100000 in
set_option maxHeartbeats 2000000 in
theorem appSeq_any {w : World} {gf : Nat} {lb : Array Value} {Pre Fin : List Int → Prop} {R : Nat → Prop} (eg : ∀ args w, (callFunc gf args).run Try.prog w = .ok (.enter gf args) w)
    (hseq : IterM Try.prog gf lb (fun x : Int => #[.int .u64 x]) Pre Fin R (w.alloc (.cells #[.slice none 0 0] 33))) (hR : ∀ k, R k → k < w.heap.size) (hPre : ∀ ss, Pre ss → ss.length ≤ 65536) :
    Calls Try.prog 163 #[.slice none 0 0, .func (.func gf) #[] lb] w fun e w' => ∃ v ss, e = .returned v ∧ Fin ss ∧ Ext w w' ∧ Own u64E w' w.heap.size 38 v ss := by
  have HQE := hide hseq
  clear hseq
  refine callsIn_wide.1 (callsIn_of_wp_marks (n := 3) Try.func163 rfl trivial ?_ rfl)
  simp only [Try.ntmps163, List.size_toArray, List.length_cons, List.length_nil, Nat.reduceAdd, Nat.reduceSub, Array.replicate_succ, Array.replicate_zero, List.push_toArray, List.append_toArray, List.nil_append, List.cons_append]
  gi_wp2
  obtain ⟨w0, hw0⟩ : ∃ w0, w.alloc (.cells #[.slice none 0 0] 33) = w0 := ⟨_, rfl⟩
  have hseq := HQE.out
  rw [hw0] at hseq ⊢
  have z0 : w0.heap.size = w.heap.size + 1 := by rw [← hw0]; simp
  have x0 : Ext w w0 := by rw [← hw0]; exact (Ext.refl w).alloc _
  have b0 : w0.heap[w.heap.size]? = some (.cells #[.slice none 0 0] 33 (0, 0)) := by rw [← hw0]; exact World.alloc_heap_new w _
  clear hw0 HQE
  refine wp_range_m (g := .tmp 6) (gf := gf) rfl eg hseq (fun _ => rfl)
    (fun pre W1 => Ext w W1 ∧ w.heap.size + 1 ≤ W1.heap.size ∧ ∃ v, W1.heap[w.heap.size]? = some (.cells #[v] 33 (0, 0)) ∧ Own u64E W1 (w.heap.size + 4) 38 v pre)
    (fun x a' _ => a' = { tmps := #[.slice none 0 0, .func (.func gf) #[] lb, .pointer (some ⟨w.heap.size, 0, none⟩), undef, .slice none 0 0, .int .u64 x, .func (.func gf) #[] lb, .int .u64 x, undef, undef, undef, undef, undef], defers := [] })
    (fun k hk => by have := hR k hk; omega) ?hO (fun x a' W1 W2 h _ => h) ⟨x0, by omega, _, b0, Own.nil _ _ _ _⟩ ?assign ?body ?done
  case hO =>
    rintro pre W1 W2 ⟨i1, i2, v, i4, i5⟩ tt
    exact ⟨((Touch.of_ext (S := fun _ => False) i1).past tt (fun k hk h => by omega)).ext, Nat.le_trans i2 tt.size, v, (tt.block _ (by omega) (fun h => by omega)).trans i4, Own.touch i5 tt (fun k hk h => by have := own_lt i5 hk; omega)⟩
  case assign =>
    intro pre x W1 K hI hz hK
    simp only [List.zip_toArray, List.zip_cons_cons, List.zip_nil_left, List.foldl_toArray, List.foldl_cons, List.foldl_nil, List.setIfInBounds_toArray, List.set_cons_zero, List.set_cons_succ] at hK ⊢
    gi_wp2
    exact hK _ W1 (Ext.refl _) hI rfl
  case body =>
    rintro pre x a' W1 ⟨i1, i2, v, i4, i5⟩ rfl hz hpre
    have o0 : W1.cell? ⟨w.heap.size, 0, none⟩ = some v := by simp [World.cell?, i4]
    have zob : w.heap.size < W1.heap.size := by omega
    have hlen : pre.length + 1 ≤ 65536 := by have := hPre _ hpre; simpa using this
    have I5 := hide i5
    have I4 := hide i4
    have hbase : w.heap.size + 4 ≤ W1.heap.size := by omega
    have Z0 := hide z0
    have HR := hide hR
    clear i4 i5 z0 x0 b0 hR hPre hseq eg hpre
    gi_wp2_with (gi_at_builtin; refine wpListIn_app_at u64E T_u64s rfl _ _ rfl (w.heap.size + 4) _ _ pre rfl I5.out x _ _ rfl _ rfl rfl (by omega) (by omega) hbase ?_; intro g' cap' w10 hown' ht10 hloc; have hob : w10.heap[w.heap.size]? = some (.cells #[v] 33 (0, 0)) := (ht10.block _ zob (fun e => by have := own_lt I5.out e; omega)).trans I4.out; have hoc : w10.cell? ⟨w.heap.size, 0, none⟩ = some v := (by simp [World.cell?, hob]); have hof : w10.frozen? ⟨w.heap.size, 0, none⟩ = false := (by simp [World.frozen?, hob]); have HOB := hide hob; have HO' := hide hown'; have HT' := hide ht10; have HLO := hide hloc; clear hown' ht10 hloc hob)
    have z0 := Z0.out
    have ht10 := HT'.out
    have hzg := ht10.size
    have ho' : w.heap.size + 4 ≤ g' ∧ g' < w10.heap.size := own_lt HO'.out rfl
    have ts : Touch (fun k => k = w.heap.size) w10 (w10.setCell ⟨w.heap.size, 0, none⟩ (.slice (some ⟨g', 0, none⟩) (pre.length + 1) cap')) := (Touch.refl (fun k => k = w.heap.size) w10).setCell (p := ⟨w.heap.size, 0, none⟩) (.inl rfl) _
    have tss := ts.size
    refine ⟨⟨?_, by omega, _, ?_, Own.touch HO'.out ts (fun k hk e => ?_)⟩, ?_⟩
    · refine (((Touch.of_ext (S := fun _ => False) i1).past ht10 (fun k hk h => ?_)).past ts (fun k hk h => ?_)).ext
      · have := (own_lt I5.out h).1; omega
      · have e2 : k = w.heap.size := h; omega
    · have hbk : Blk w10 w.heap.size 33 #[v] := HOB.out
      have := hbk.set_ 0 (.slice (some ⟨g', 0, none⟩) (pre.length + 1) cap')
      unfold Blk at this
      simpa using this
    · simp only [Value.ownBlock, Option.some.injEq] at hk
      subst hk
      have e2 : g' = w.heap.size := e
      omega
    · refine (ht10.mono (fun k _ hk => ⟨fun e => ?_, ?_, ?_, ?_⟩)).setCell (p := ⟨w.heap.size, 0, none⟩) (.inl ⟨fun e => ?_, ?_, ?_, ?_⟩) _
      · have := (own_lt I5.out hk).1; have := HR.out _ e; omega
      · have := (own_lt I5.out hk).1; omega
      · have := (own_lt I5.out hk).1; omega
      · have := (own_lt I5.out hk).1; omega
      · have e2 : w.heap.size < w.heap.size := HR.out _ e; omega
      · show w.heap.size ≠ _; omega
      · show w.heap.size ≠ _; omega
      · show w.heap.size ≠ _; omega
  case done =>
    rintro xs W1 F ⟨i1, i2, v, i4, i5⟩ hD
    dsimp only
    have o0 : W1.cell? ⟨w.heap.size, 0, none⟩ = some v := by simp [World.cell?, i4]
    have t6 : Touch (fun j => j = w0.heap.size) W1 (W1.putObj w0.heap.size (.deferred none)) := touch_putObj _ _
    have HI := hide (show Ext w (W1.putObj w0.heap.size (.deferred none)) ∧ Own u64E (W1.putObj w0.heap.size (.deferred none)) w.heap.size 38 v xs from
      ⟨((Touch.of_ext (S := fun _ => False) i1).past t6 (fun k hk e => by omega)).ext, Own.lower (Own.touch i5 t6 (fun k hk e => by have := (own_lt i5 hk).1; omega)) (by omega)⟩)
    have HD := hide hD
    have HF := hide F
    clear i1 i4 i5 hD t6 F hR hPre hseq eg x0 b0 z0
    gi_wp2
    refine ⟨by simp, .inl ⟨_, _, rfl, run_takeDeferred HD.out, ?_⟩⟩
    exact ⟨_, results_tmp rfl _ _ _, v, xs, rfl, HF.out, HI.out.1, HI.out.2⟩
end Go.Proofs.Ytifbmapianddcaa
