/- A row of no tokens is put in order: nothing turns. -/
import Derived.Test.YtifbmapianddcaaSessP
set_option linter.all false
set_option linter.unusedVariables false
set_option linter.unusedSimpArgs false
namespace Go.Proofs.Ytifbmapianddcaa
open Go.RowKit

set_option maxRecDepth 100000 in
theorem insU_nil (g : Nat) (cb : Array Value) (w : World) : Calls Try.prog 192 #[.slice none 0 0, .int .i64 0, .int .i64 0, .func (.func g) #[] cb] w fun e w' => e = .returned (.tuple #[]) ∧ w = w' := by
  go_enter Try.func192, Try.ntmps192
  go_wp2
  refine wp_loop_rounds 1 ?_
  rw [rounds_succ]
  go_wp2
  go_end0
  exact ⟨rfl, rfl⟩

set_option maxRecDepth 100000 in
theorem pdqU_nil (g : Nat) (cb : Array Value) (lim : Int) (w : World) : Calls Try.prog 164 #[.slice none 0 0, .int .i64 0, .int .i64 0, .int .i64 lim, .func (.func g) #[] cb] w fun e w' => e = .returned (.tuple #[]) ∧ w = w' := by
  have HI := hide (insU_nil g cb)
  go_enter Try.func164, Try.ntmps164
  go_wp2
  refine wp_loop_rounds 1 ?_
  rw [rounds_succ]
  go_wp2_with (go_at_call 192; refine (HI.out _).mono ?_; rintro e w' ⟨rfl, rfl⟩)
  (try simp only [Exit.inBlock, Exit.then])
  refine bodyPost_ret (results_none rfl _ _ _) rfl ?_
  exact ⟨rfl, rfl⟩

theorem sortU_nil (g : Nat) (cb : Array Value) (w : World) : Calls Try.prog 131 #[.slice none 0 0, .func (.func g) #[] cb] w fun e w' => e = .returned (.tuple #[]) ∧ w = w' := by
  have HI := hide (pdqU_nil g cb)
  have HL := hide (fun W => (Any.bits_Len lenB 0 W (by omega) (by omega)).mono (R' := fun e w' => (∃ l : Int, e = .returned (.int .i64 l)) ∧ w' = W) (fun _ _ ⟨he, hw⟩ => ⟨⟨_, he⟩, hw⟩))
  go_enter Try.func131, Try.ntmps131
  go_wp2_with (first
    | (go_at_call 144; refine (HL.out _).mono ?_; rintro e w' ⟨⟨k, rfl⟩, rfl⟩)
    | (go_at_call 164; refine (HI.out _ _).mono ?_; rintro e w' ⟨rfl, rfl⟩))
  go_end0
  exact ⟨rfl, rfl⟩
end Go.Proofs.Ytifbmapianddcaa
