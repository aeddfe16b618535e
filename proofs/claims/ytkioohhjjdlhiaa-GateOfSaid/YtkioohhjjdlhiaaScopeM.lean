/- A law of my own: a scope in which the run jumps back to labels, of which there may be several. -/
import Derived.Test.YtkioohhjjdlhiaaLib
import Derived.ScopeJumps
import Derived.WalkMore
set_option linter.all false
set_option linter.unusedVariables false
set_option linter.unusedSimpArgs false
namespace Go.Proofs.Ytkioohhjjdlhiaa
open Go.RowKit

/-- As Q; by a goto: what holds at that label. -/
def jumps (J : Nat → Act → World → Prop) (Q : Exit → Act → World → Prop) : Exit → Act → World → Prop
  | .goto l, a, w => J l a w
  | e, a, w => Q e a w

theorem wp_scope_many {P : Program} {a : Act} {w : World} {Q : Exit → Act → World → Prop} {c : Code} (J : Nat → Act → World → Prop) (μ : Nat → Act → World → Nat)
    (first : c.wp P (jumps J Q) a w)
    (pass : ∀ l a w, J l a w → ∃ rest, findLabel c l = some rest ∧ rest.wp P (jumps (fun l' a' w' => J l' a' w' ∧ μ l' a' w' < μ l a w) Q) a w) : (Code.scope c).wp P Q a w := by
  intro b k cs
  have key : ∀ n l a w rest, μ l a w = n → J l a w → findLabel c l = some rest → ∃ e a' w', Q e a' w' ∧ Arrives P (lone (b.at a (.code rest :: .inScope c :: k)) cs w) b k cs e a' w' := by
    intro n
    induction n using Nat.strongRecOn with
    | _ n ih =>
      intro l a w rest hn hJ hf
      obtain ⟨rest', hf', hp⟩ := pass l a w hJ
      obtain rfl : rest = rest' := Option.some.inj (hf.symm.trans hf')
      obtain ⟨e, a₁, w₁, hq, harr⟩ := hp b (.inScope c :: k) cs
      cases e with
      | normal => exact ⟨.normal, a₁, w₁, hq, Steps.trans harr (.one step_inScope)⟩
      | exit id => exact ⟨.exit id, a₁, w₁, hq, fun k' hk => harr k' (by simp [exitTo, hk])⟩
      | goto l' =>
        obtain ⟨hJ', hlt⟩ := hq
        obtain ⟨rest2, hf2, _⟩ := pass l' a₁ w₁ hJ'
        have hg : gotoIn l' (.inScope c :: k) = some (.code rest2 :: .inScope c :: k) := by simp [gotoIn, hf2]
        obtain ⟨e₂, a₂, w₂, hq₂, harr₂⟩ := ih _ (by omega) l' a₁ w₁ rest2 rfl hJ' hf2
        exact ⟨e₂, a₂, w₂, hq₂, .of_steps (harr _ hg) harr₂⟩
      | ret => exact ⟨_, a₁, w₁, hq, harr⟩
      | panic ch => exact ⟨_, a₁, w₁, hq, harr⟩
      | outgrown => exact ⟨_, a₁, w₁, hq, harr⟩
  obtain ⟨e, a₁, w₁, hq, harr⟩ := first b (.inScope c :: k) cs
  cases e with
  | normal => exact ⟨.normal, a₁, w₁, hq, .head step_scope (Steps.trans harr (.one step_inScope))⟩
  | exit id => exact ⟨.exit id, a₁, w₁, hq, fun k' hk => .head step_scope (harr k' (by simp [exitTo, hk]))⟩
  | goto l' =>
    obtain ⟨rest2, hf2, _⟩ := pass l' a₁ w₁ hq
    have hg : gotoIn l' (.inScope c :: k) = some (.code rest2 :: .inScope c :: k) := by simp [gotoIn, hf2]
    obtain ⟨e₂, a₂, w₂, hq₂, harr₂⟩ := key _ l' a₁ w₁ rest2 rfl hq hf2
    exact ⟨e₂, a₂, w₂, hq₂, .of_steps (.head step_scope (harr _ hg)) harr₂⟩
  | ret => exact ⟨_, a₁, w₁, hq, .of_steps (.one step_scope) harr⟩
  | panic ch => exact ⟨_, a₁, w₁, hq, .of_steps (.one step_scope) harr⟩
  | outgrown => exact ⟨_, a₁, w₁, hq, .of_steps (.one step_scope) harr⟩

def noWay : Exit → Act → World → Prop := fun _ _ _ => False

/-- A scope that begins with three statements, behind which a label stands to which the run jumps back. -/
theorem wp_scope_from3 {P : Program} {a : Act} {w : World} {Q : Exit → Act → World → Prop} {p1 p2 p3 rest : Code} {l0 : Nat} (J : Nat → Act → World → Prop) (μ : Nat → Act → World → Nat)
    (hf : findLabel (p1.seq (p2.seq (p3.seq ((Code.label l0).seq rest)))) l0 = some (Code.skip.seq rest))
    (first : p1.wp P (Exit.then (fun a w => p2.wp P (Exit.then (fun a w => p3.wp P (Exit.then (J l0) noWay) a w) noWay) a w) noWay) a w)
    (pass : ∀ l a w, J l a w → ∃ r, findLabel (p1.seq (p2.seq (p3.seq ((Code.label l0).seq rest)))) l = some (Code.skip.seq r) ∧ r.wp P (jumps (fun l' a' w' => J l' a' w' ∧ μ l' a' w' < μ l a w) Q) a w) :
    (Code.scope (p1.seq (p2.seq (p3.seq ((Code.label l0).seq rest))))).wp P Q a w := by
  refine wp_scope_many J μ ?_ fun l a w h => ?_
  · have up : ∀ {R : Act → World → Prop} {S : Act → World → Prop} {x : Code} {a : Act} {w : World}, x.wp P (Exit.then R noWay) a w → (∀ a w, R a w → S a w) → x.wp P (Exit.then S (jumps J Q)) a w := by
      intro R S x a w h hs
      refine Go.wp_mono h ?_
      intro e a w q
      cases e <;> first | exact hs _ _ q | exact q.elim
    refine wp_seq (up first fun a w h1 => wp_seq (up h1 fun a w h2 => wp_seq (up h2 fun a w h3 => wp_seq (wp_label ?_))))
    obtain ⟨r, hr, hw⟩ := pass l0 a w h3
    have e : r = rest := by
      have := hr.symm.trans hf
      injection this with this
      injection this
    subst e
    refine Go.wp_mono hw ?_
    intro e a w q
    cases e <;> first | exact q.1 | exact q
  · obtain ⟨r, hr, hw⟩ := pass l a w h
    exact ⟨_, hr, wp_seq (wp_skip hw)⟩
/-- A scope that begins with two statements, behind which a label stands to which the run jumps back. -/
theorem wp_scope_from2 {P : Program} {a : Act} {w : World} {Q : Exit → Act → World → Prop} {p1 p2 rest : Code} {l0 : Nat} (J : Nat → Act → World → Prop) (μ : Nat → Act → World → Nat)
    (hf : findLabel (p1.seq (p2.seq ((Code.label l0).seq rest))) l0 = some (Code.skip.seq rest))
    (first : p1.wp P (Exit.then (fun a w => p2.wp P (Exit.then (J l0) noWay) a w) noWay) a w)
    (pass : ∀ l a w, J l a w → ∃ r, findLabel (p1.seq (p2.seq ((Code.label l0).seq rest))) l = some (Code.skip.seq r) ∧ r.wp P (jumps (fun l' a' w' => J l' a' w' ∧ μ l' a' w' < μ l a w) Q) a w) :
    (Code.scope (p1.seq (p2.seq ((Code.label l0).seq rest)))).wp P Q a w := by
  refine wp_scope_many J μ ?_ fun l a w h => ?_
  · have up : ∀ {R : Act → World → Prop} {S : Act → World → Prop} {x : Code} {a : Act} {w : World}, x.wp P (Exit.then R noWay) a w → (∀ a w, R a w → S a w) → x.wp P (Exit.then S (jumps J Q)) a w := by
      intro R S x a w h hs
      refine Go.wp_mono h ?_
      intro e a w q
      cases e <;> first | exact hs _ _ q | exact q.elim
    refine wp_seq (up first fun a w h1 => wp_seq (up h1 fun a w h3 => wp_seq (wp_label ?_)))
    obtain ⟨r, hr, hw⟩ := pass l0 a w h3
    have e : r = rest := by
      have := hr.symm.trans hf
      injection this with this
      injection this
    subst e
    refine Go.wp_mono hw ?_
    intro e a w q
    cases e <;> first | exact q.1 | exact q
  · obtain ⟨r, hr, hw⟩ := pass l a w h
    exact ⟨_, hr, wp_seq (wp_skip hw)⟩
end Go.Proofs.Ytkioohhjjdlhiaa
