/- gate.Between on two clusters that lie beside one another. -/
import Derived.Test.YtkioohhjjdlhiaaBordW
import Derived.Test.YtkioohhjjdlhiaaGateC
set_option linter.all false
set_option linter.unusedVariables false
set_option linter.unusedSimpArgs false
namespace Go.Proofs.Ytkioohhjjdlhiaa
open Go.RowKit

theorem border_in {W H s lo hi : Int} (hr : rightB W H s = true) (h0 : 0 ≤ lo) (hlt : lo < hi) (h1 : hi < cnt W H s) (hn : hasI (besideL W H s lo) hi = true) (k : Nat) (p : Cell × Cell) (hk : (borderL W H s lo hi)[k]? = some p) : InMap W H p := by
  have h := border_at hr ((near_pair hr h0 hlt h1).1 hn) hk
  obtain ⟨z1, z2, _⟩ := h
  rw [inB_true] at z1 z2
  exact ⟨⟨by omega, by omega, by omega, by omega⟩, ⟨by omega, by omega, by omega, by omega⟩⟩

/-- What stands along the border of two clusters. -/
def bords (W H s x y : Int) : List (Cell × Cell) := borderL W H s (min x y) (max x y)

theorem ne_of_beside {W H s x y : Int} (hr : rightB W H s = true) (hn : hasI (besideL W H s (min x y)) (max x y) = true) : min x y < max x y := by
  rcases Int.lt_trichotomy x y with h | h | h
  · omega
  · subst h
    rw [show min x x = x by omega, show max x x = x by omega, beside_self hr] at hn
    simp at hn
  · omega

theorem gtBetween_near (W H : Int) (a : Option Addr) (l : List Int) (c : Nat) (s x y : Int) (w : World) (hm : checkE W H l.length = 0) (hr : Row16 w a l) (ht : rightB W H s = true)
    (hx0 : 0 ≤ x) (hx : x < cnt W H s) (hy0 : 0 ≤ y) (hy : y < cnt W H s) (hn : hasI (besideL W H s (min x y)) (max x y) = true) :
    Calls Try.prog 14 #[.agg #[.int .i64 W, .int .i64 H, .slice a l.length c], .agg #[.int .i64 W, .int .i64 H, .int .i64 s], .int .i64 x, .int .i64 y] w (RetGatesE w (pick (bords W H s x y) (refI (opB l W (bords W H s x y)) (bords W H s x y).length (bords W H s x y).length)) 0) := by
  have hne := ne_of_beside ht hn
  have hlB := borderL_len (hi := max x y) ht (lo := min x y) (by omega) (by omega)
  have hlP := borderL_pos (hi := max x y) ht (lo := min x y) (by omega) (by omega)
  obtain ⟨m1, m2⟩ := checkE_ok.1 hm
  have h := gtBetween_yes W H a l c s x y (bords W H s x y) w m1 m2 hr (fun w => Border_yes W H s x y w ht hx0 hx hy0 hy hn) hlP (by unfold bords; omega)
    (fun k p hk => border_in ht (by omega) hne (by omega) hn k p hk)
  unfold gatesL at h
  rwa [gates_all] at h
end Go.Proofs.Ytkioohhjjdlhiaa
