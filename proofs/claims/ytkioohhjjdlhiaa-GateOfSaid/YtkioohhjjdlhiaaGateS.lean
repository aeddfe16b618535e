/- gate.Of, whatever came; rows of costs of one's own; the gates hang on which cells are walls alone. -/
import Derived.Test.YtkioohhjjdlhiaaGateO
import Derived.Test.YtkioohhjjdlhiaaAwake12
set_option linter.all false
set_option linter.unusedVariables false
set_option linter.unusedSimpArgs false
namespace Go.Proofs.Ytkioohhjjdlhiaa
open Go.RowKit

def u16G : Enc Int := ⟨1, fun x => [.int .u16 x], fun _ => rfl, fun _ u hu => by simp at hu; subst hu; rfl⟩
theorem T_u16G : ElemT Try.prog 24 49 (.int .u16 0) 1 2 := ⟨Try.underlying24, by kernel_rfl, rfl, by decide⟩
theorem row16_ownG {w : World} {base n c : Nat} {a : Option Addr} {l : List Int} (h : Own u16G w base 49 (.slice a n c) l) : Row16 w a l := fun h0 => by
  have h' : w.ownsRow base 49 1 (.slice a n c) l.length (l.flatMap u16G.cells) := h
  rcases h.2 with ⟨hv, hz⟩ | ⟨g, cap, cur, hv, hb, hg, _⟩
  · omega
  · cases hv
    refine ⟨g, 0, rfl, lt_of_block hg, fun k hk => ?_⟩
    have hf : (l.flatMap u16G.cells)[k]? = some (.int .u16 l[k]) := by
      have := flat_at u16G l k _ (List.getElem?_eq_getElem hk) 0 (.int .u16 l[k]) rfl
      simpa [u16G] using this
    rw [Nat.zero_add]
    have := h'.cellAt k (by omega)
    rw [this, hf]

def ofErr (W H pW pH s : Int) (n : Nat) : Int := if gateE W H pW pH n = 0 then (if rightB pW pH s = true then 0 else 1) else gateE W H pW pH n
def ofAll (l : List Int) (W H pW pH s : Int) : List (Cell × Cell) := if gateE W H pW pH l.length = 0 then (if rightB pW pH s = true then ofG l W H s (cnt W H s).toNat else []) else []

theorem gtOf_any (W H : Int) (a : Option Addr) (l : List Int) (c : Nat) (pW pH s : Int) (w : World) (hr : Row16 w a l) :
    Calls Try.prog 6 #[.agg #[.int .i64 W, .int .i64 H, .slice a l.length c], .agg #[.int .i64 pW, .int .i64 pH, .int .i64 s]] w (RetGatesE w (ofAll l W H pW pH s) (ofErr W H pW pH s l.length)) := by
  unfold ofAll ofErr
  by_cases h0 : gateE W H pW pH l.length = 0
  · rw [if_pos h0, if_pos h0]
    obtain ⟨hm, rfl, rfl⟩ := gateE_zero h0
    by_cases ht : rightB pW pH s = true
    · rw [if_pos ht, if_pos ht]
      exact gtOf_yes pW pH a l c s w hm hr ht
    · rw [if_neg ht, if_neg ht]
      exact (gtOf_cut pW pH a l.length c pW pH s w h0 (by simpa using ht)).mono fun e w' ⟨he, hx⟩ => ⟨_, he, hx, Own.nil _ _ _ _⟩
  · rw [if_neg h0, if_neg h0]
    exact (gtOf_chk W H a l.length c pW pH s w (by simpa using h0)).mono fun e w' ⟨he, hx⟩ => ⟨_, he, hx, Own.nil _ _ _ _⟩

/-- Walls at the same places. -/
def Alike (l l' : List Int) : Prop := l'.length = l.length ∧ ∀ k : Nat, (0 < l'.getD k 0 ↔ 0 < l.getD k 0)
theorem ofAll_alike {l l' : List Int} {W H pW pH s : Int} (h : Alike l l') : ofAll l' W H pW pH s = ofAll l W H pW pH s := by
  have ho : ∀ B, opB l' W B = opB l W B := fun B => by
    funext k
    unfold opB
    cases B[k]? with
    | none => rfl
    | some p =>
      have hc : ∀ q, (0 < costI l' W q ↔ 0 < costI l W q) := fun q => h.2 _
      show (decide (0 < costI l' W p.1) && decide (0 < costI l' W p.2)) = (decide (0 < costI l W p.1) && decide (0 < costI l W p.2))
      rw [decide_eq_decide.2 (hc p.1), decide_eq_decide.2 (hc p.2)]
  have hb : ∀ a b, btw l' W H s a b = btw l W H s a b := fun a b => by unfold btw; rw [ho]
  unfold ofAll
  rw [h.1]
  have : ∀ n, ofG l' W H s n = ofG l W H s n := fun n => by
    unfold ofG rowG
    congr 1
    funext k
    congr 1
    funext b
    exact hb _ _
  rw [this]

theorem und_gate : Try.prog.underlying 65 = some (.struct (Try.prog.fieldsOf 65)) := by kernel_rfl
theorem stood_gate : Try.prog.stoodInHeld 65 = false := by kernel_rfl
theorem eqIn_gate (d : Nat) (a b a2 b2 c e c2 e2 : Int) (w : World) : (Op.equalIn (d + 5) 65 (.agg #[.int .i64 a, .int .i64 b, .int .i64 a2, .int .i64 b2]) (.agg #[.int .i64 c, .int .i64 e, .int .i64 c2, .int .i64 e2])).run Try.prog w = .ok ((a == c && b == e) && (a2 == c2 && b2 == e2)) w := by
  rw [run_equalIn_struct w (d + 4) 65 _ _ und_gate stood_gate]
  have h1 := eqIn_cell (d + 1) a b c e
  have h2 := eqIn_cell (d + 1) a2 b2 c2 e2
  cases h : (a == c && b == e) <;> cases h' : (a2 == c2 && b2 == e2) <;> simp [go_sem, h1, h2, h, h']

theorem own_gate_at {w : World} {base n c : Nat} {e : TypeId} {a : Option Addr} {l : List (Cell × Cell)} {j : Nat} {q : Cell × Cell} (h : Own pairE w base e (.slice a n c) l) (hj : l[j]? = some q) :
    ∃ g, a = some ⟨g, 0, none⟩ ∧ g < w.heap.size ∧ (w.cell? ⟨g, j * 4, none⟩ = some (.int .i64 q.1.1) ∧ w.cell? ⟨g, j * 4 + 1, none⟩ = some (.int .i64 q.1.2) ∧ w.cell? ⟨g, j * 4 + 2, none⟩ = some (.int .i64 q.2.1) ∧ w.cell? ⟨g, j * 4 + 3, none⟩ = some (.int .i64 q.2.2)) := by
  obtain ⟨hjl, rfl⟩ := List.getElem?_eq_some_iff.1 hj
  rcases h.2 with ⟨hv, h0⟩ | ⟨g, cap, cur, hv, hb, hg, _⟩
  · omega
  · cases hv
    refine ⟨g, rfl, lt_of_block hg, ?_⟩
    have := h.reads.pairs.2 j hjl
    simpa using this
end Go.Proofs.Ytkioohhjjdlhiaa
