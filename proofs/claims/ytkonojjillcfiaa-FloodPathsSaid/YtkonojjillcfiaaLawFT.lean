/- The law FloodThree: what is plain in it, and how Path answers. -/
import Derived.Test.YtkonojjillcfiaaLawFN
namespace Go.Proofs.Ytkonojjillcfiaa
open Go.RowKit

theorem three_sat {G : Net} {s a t : Nat} {f g : Nat → Int} (hn : G.n ≤ 1000000) (hf : IsFar G s f) (hg : IsFar G a g) (lf : FarLow G f) (lg : FarLow G g) (h : f a < infI) : f t ≤ satS (f a) (g t) := by
  have e1 : infI = 18446744073709551615 := rfl
  have h1 := hf.le t
  have h2 := hg.le t
  have h3 := hf.nn a
  by_cases k : g t < infI
  · have := hf.third hn hg lf lg h k
    unfold satS
    split <;> omega
  · unfold satS
    split <;> omega
theorem three_on {G : Net} {s a t : Nat} {f g : Nat → Int} (hn : G.n ≤ 1000000) (hf : IsFar G s f) (hg : IsFar G a g) (lf : FarLow G f) (lg : FarLow G g) (h : f a < infI) (k : f t < infI) (w : Way G a t (f t - f a)) : satS (f a) (g t) = f t := by
  have e1 : infI = 18446744073709551615 := rfl
  have h3 := hf.nn a
  have h4 := hg.le_way w (by omega)
  have := hf.third hn hg lf lg h (t := t) (by omega)
  unfold satS
  split <;> omega

theorem fPath_uni {w : World} {W H : Int} {a : Option Addr} {l : List Int} {bx byy bw bh x y : Int} (c : Nat) (tx ty : Int) (he : lookE W H l.length bx byy bw bh x y = 0) (hr : Row16 w a l) (hu : U16s l) (ht : hasB bx byy bw bh tx ty = true) :
    Calls Try.prog 40 #[.agg #[.int .i64 W, .int .i64 H, .slice a l.length c], .agg #[.int .i64 bx, .int .i64 byy, .int .i64 bw, .int .i64 bh], .agg #[.int .i64 x, .int .i64 y], .agg #[.int .i64 tx, .int .i64 ty]] w fun e w' =>
      ∃ (far : Nat → Int) (v : Value) (q : List Nat) (pc ge : Int), e = .returned (.tuple #[v, .int .u64 pc, .int .i64 ge]) ∧ Ext w w' ∧ Reads cellE w' v (q.map (cellV W)) ∧ q.length ≤ l.length ∧ IsFar (mapNet (landP_of he hu)) (idxN W (x, y)) far ∧ FarLow (mapNet (landP_of he hu)) far ∧
        (ge = 0 ∧ far (idxN W (tx, ty)) < infI ∧ pc = far (idxN W (tx, ty)) ∧ BackP (mapNet (landP_of he hu)) far (idxN W (tx, ty)) q.reverse ∨ ge = 22 ∧ far (idxN W (tx, ty)) = infI ∧ pc = 0 ∧ q = []) := by
  refine (fPath_at c tx ty he hr hu ht).mono ?_
  rintro e w' ⟨far, h1, h2, h3, ⟨h4, rfl⟩ | ⟨h4, v, p, rfl, h5, h6⟩⟩
  · exact ⟨far, _, [], 0, 22, rfl, h3, .inl ⟨rfl, rfl⟩, by simp, h1, h2, .inr ⟨rfl, h4, rfl, rfl⟩⟩
  · refine ⟨far, v, p.reverse, _, 0, rfl, h3, ?_, by rw [List.length_reverse]; exact h5.few h1 h4, h1, h2, .inl ⟨rfl, h4, rfl, by rw [List.reverse_reverse]; exact h5⟩⟩
    rw [List.map_reverse]
    exact h6.reads

theorem path_way {G : Net} {s t : Nat} {far : Nat → Int} {q : List Nat} {pc ge : Int} (F : IsFar G s far) (h : ge = 0 ∧ far t < infI ∧ pc = far t ∧ BackP G far t q.reverse ∨ ge = 22 ∧ far t = infI ∧ pc = 0 ∧ q = []) {u : Nat} (hu : u ∈ q) : far t < infI ∧ far u < infI ∧ Way G u t (far t - far u) := by
  rcases h with ⟨_, h1, _, h2⟩ | ⟨_, _, _, rfl⟩
  · have := h2.all F h1 u (List.mem_reverse.2 hu)
    exact ⟨h1, this.2.1, this.2.2⟩
  · cases hu

theorem look_in {W H : Int} {l : List Int} {bx byy bw bh x y : Int} (he : lookE W H l.length bx byy bw bh x y = 0) (hu : U16s l) {v : Nat} (h : (mapNet (landP_of he hu)).op v = true) : lookE W H l.length bx byy bw bh (vx W v) (vy W v) = 0 := by
  obtain ⟨h1, h2, h3, _⟩ := lookE_ok.1 he
  have h' : opV (openB l W bx byy bw bh) W l.length v = true := h
  unfold opV at h'
  simp only [Bool.and_eq_true] at h'
  exact lookE_ok.2 ⟨h1, h2, h3, (open_has h'.2).1⟩

theorem at08_in {w : World} {W H : Int} {l : List Int} {bx byy bw bh : Int} (L : LandP W H l bx byy bw bh) (a : Option Addr) (c : Nat) {g cg base : Nat} {far : Nat → Int} (fa : FarAt w base g cg far l.length) (x y : Int) (h : hasB bx byy bw bh x y = true) :
    Calls Try.prog 46 #[.agg #[.int .i64 W, .int .i64 H, .slice a l.length c], .agg #[.int .i64 bx, .int .i64 byy, .int .i64 bw, .int .i64 bh], .slice (some ⟨g, 0, none⟩) l.length cg, .agg #[.int .i64 x, .int .i64 y]] w fun e w' => e = .returned (.int .u64 (far (idxN W (x, y)))) ∧ Ext w w' := by
  have h1 := L.in_ h
  have h2 := L.wh
  have := at08_any L a c fa x y (by omega) (by omega)
  rw [if_pos h] at this
  exact this
end Go.Proofs.Ytkonojjillcfiaa
