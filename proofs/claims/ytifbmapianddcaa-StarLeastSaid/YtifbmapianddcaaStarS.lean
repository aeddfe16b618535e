/- star.Find in one contract. -/
import Derived.Test.YtifbmapianddcaaStarR
set_option linter.all false
set_option linter.unusedVariables false
set_option linter.unusedSimpArgs false
namespace Go.Proofs.Ytifbmapianddcaa
open Go.RowKit

def Finds (W H : Int) (l : List Int) (x y tx ty b : Int) (base : Nat) (e : Ending) (w' : World) : Prop :=
  ∃ (p : List Nat) (c k er : Int) (v : Value), Srch W H l x y tx ty b p c k er ∧ e = .returned (.tuple #[.agg #[v, .int .u64 c, .int .i64 k], .int .i64 er]) ∧ Own cellE w' base 28 v (p.map (cellV W))

theorem sFind_uni {w : World} (W H : Int) (a : Option Addr) {l : List Int} (c : Nat) (x y tx ty b : Int) (hr : Row16 w a l) (hu : U16s l) :
    Calls Try.prog 18 #[.agg #[.int .i64 W, .int .i64 H, .slice a l.length c], .agg #[.int .i64 x, .int .i64 y], .agg #[.int .i64 tx, .int .i64 ty], .int .i64 b] w fun e w' => Ext w w' ∧ Finds W H l x y tx ty b w.heap.size e w' := by
  by_cases he : findE W H l.length x y tx ty b = 0
  · refine (sFind_any c he hr hu).mono ?_
    rintro e w' ⟨hx, h1, h2⟩
    refine ⟨hx, ?_⟩
    by_cases ho : (mapNet (landP_of (whole_of he).1 hu)).op (idxN W (x, y)) = true ∧ (mapNet (landP_of (whole_of he).1 hu)).op (idxN W (tx, ty)) = true
    · obtain ⟨p, cc, k, er, v, a1, a2, a3⟩ := h1 ho
      exact ⟨p, cc, k, er, v, .inr ⟨he, _, .inl ⟨ho.1, ho.2, a1⟩⟩, a2, a3⟩
    · exact ⟨[], 0, 0, 22, _, .inr ⟨he, landP_of (whole_of he).1 hu, .inr ⟨ho, rfl, rfl, rfl, rfl⟩⟩, h2 ho, Own.nil _ _ _ _⟩
  · refine (sFind_bad W H a l.length c x y tx ty b he).mono ?_
    rintro e w' ⟨h1, hx⟩
    exact ⟨hx, [], 0, 0, _, _, .inl ⟨he, rfl, rfl, rfl, rfl⟩, h1, Own.nil _ _ _ _⟩
end Go.Proofs.Ytifbmapianddcaa
