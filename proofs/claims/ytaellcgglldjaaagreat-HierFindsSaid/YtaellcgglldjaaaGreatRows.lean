/-
  No cell of these rows narrows 'for every input' (looked for: loops, veiled, ifaces, maps, wideKeys, modest, calm, conditions, laid).
  DERIVED. THE GIVEN ROWS OF THIS SEAT. 6 by the template 'for every input the law returns true; each argument reads behind the call as it read before'; 0 by the template 'total and deterministic' (their statements: YtaellcgglldjaaaGreatTotals.lean).
  GIVEN WITH THE SEED: the statements are not yours to turn. If you find one false, say at which input.
  Laid BY PROGRAM, IN A SANDBOX (cutbox-rows.mjs): the forced cells as the released guide's own fill.sh prints them over the translation d92e92646a28a3c6… (all of the seat's roots in one cut). By AI agents, Wed Nov 11 2026. No macro, syntax, notation, axiom, sorry.
-/
import Derived.Test.YtaellcgglldjaaaGreatChecked
import GoSem.Claim
import GoSem.ClaimJoined
import GoSem.ClaimMapViews
import Derived.JoinedTies
import Derived.KernelRfl
namespace Go.Proofs.YtaellcgglldjaaaGreat
/- THE CELL 'sum', in the pinned program and in every row, IS THE sha256 OF THE DUMP (.gsa) THAT YtaellcgglldjaaaGreatProg.lean LOADS. Nothing in Lean hashes anything: it is a label: what it is worth is what the hold of that sum in a sandbox is worth. -/
noncomputable def Tryz.pinned : Pinned := { name := "ytaellcgglldjaaagreat", sum := "d92e92646a28a3c66e7d3e41214b63723dfcc4ff1ca5e7629416807a7aaf8773", checked := Tryz.checked }
namespace Rows
def none {H : Type} : Left H := { results := [], args := [] }

/-- 'gloaminglaw15.HierFinds': WHATEVER THE INPUT: true; the input reads as it did. -/
def hierFindsSpec : ChangeSpec := { name := "hierFinds", fn := fun _ => fun
  | [d1, d2] => { results := [.lit (.bool true)], args := [d1, d2] }
  | _ => none }
def hierFindsRow : OpenClaim := { program := "ytaellcgglldjaaagreat", sum := "d92e92646a28a3c66e7d3e41214b63723dfcc4ff1ca5e7629416807a7aaf8773", func := "gloaming/gloaminglaw15.HierFinds", spec := "hierFinds", unfollowed := true, recurses := true, plainKeys := false, apart := false }
def HierFindsSaid : Prop := hierFindsRow.holds Tryz.pinned (OpenSpec.ofChange hierFindsSpec)

/-- ITS FALSE NEIGHBOUR: 'it returns false'. Refute it at one input. -/
def hierFindsWrong : ChangeSpec := { name := "hierFinds", fn := fun _ => fun
  | [d1, d2] => { results := [.lit (.bool false)], args := [d1, d2] }
  | _ => none }
def HierFindsWrongFalsely : Prop := hierFindsRow.holds Tryz.pinned (OpenSpec.ofChange hierFindsWrong)

/-- 'gloaminglaw15.HierBacks': WHATEVER THE INPUT: true; the input reads as it did. -/
def hierBacksSpec : ChangeSpec := { name := "hierBacks", fn := fun _ => fun
  | [d1, d2, d3] => { results := [.lit (.bool true)], args := [d1, d2, d3] }
  | _ => none }
def hierBacksRow : OpenClaim := { program := "ytaellcgglldjaaagreat", sum := "d92e92646a28a3c66e7d3e41214b63723dfcc4ff1ca5e7629416807a7aaf8773", func := "gloaming/gloaminglaw15.HierBacks", spec := "hierBacks", unfollowed := true, recurses := true, plainKeys := false, apart := false }
def HierBacksSaid : Prop := hierBacksRow.holds Tryz.pinned (OpenSpec.ofChange hierBacksSpec)

/-- ITS FALSE NEIGHBOUR: 'it returns false'. Refute it at one input. -/
def hierBacksWrong : ChangeSpec := { name := "hierBacks", fn := fun _ => fun
  | [d1, d2, d3] => { results := [.lit (.bool false)], args := [d1, d2, d3] }
  | _ => none }
def HierBacksWrongFalsely : Prop := hierBacksRow.holds Tryz.pinned (OpenSpec.ofChange hierBacksWrong)

/-- 'gloaminglaw15.HierNodes': WHATEVER THE INPUT: true; the input reads as it did. -/
def hierNodesSpec : ChangeSpec := { name := "hierNodes", fn := fun _ => fun
  | [d1, d2, d3] => { results := [.lit (.bool true)], args := [d1, d2, d3] }
  | _ => none }
def hierNodesRow : OpenClaim := { program := "ytaellcgglldjaaagreat", sum := "d92e92646a28a3c66e7d3e41214b63723dfcc4ff1ca5e7629416807a7aaf8773", func := "gloaming/gloaminglaw15.HierNodes", spec := "hierNodes", unfollowed := true, recurses := true, plainKeys := false, apart := false }
def HierNodesSaid : Prop := hierNodesRow.holds Tryz.pinned (OpenSpec.ofChange hierNodesSpec)

/-- ITS FALSE NEIGHBOUR: 'it returns false'. Refute it at one input. -/
def hierNodesWrong : ChangeSpec := { name := "hierNodes", fn := fun _ => fun
  | [d1, d2, d3] => { results := [.lit (.bool false)], args := [d1, d2, d3] }
  | _ => none }
def HierNodesWrongFalsely : Prop := hierNodesRow.holds Tryz.pinned (OpenSpec.ofChange hierNodesWrong)

/-- 'gloaminglaw15.HierBudget': WHATEVER THE INPUT: true; the input reads as it did. -/
def hierBudgetSpec : ChangeSpec := { name := "hierBudget", fn := fun _ => fun
  | [d1, d2] => { results := [.lit (.bool true)], args := [d1, d2] }
  | _ => none }
def hierBudgetRow : OpenClaim := { program := "ytaellcgglldjaaagreat", sum := "d92e92646a28a3c66e7d3e41214b63723dfcc4ff1ca5e7629416807a7aaf8773", func := "gloaming/gloaminglaw15.HierBudget", spec := "hierBudget", unfollowed := true, recurses := true, plainKeys := false, apart := false }
def HierBudgetSaid : Prop := hierBudgetRow.holds Tryz.pinned (OpenSpec.ofChange hierBudgetSpec)

/-- ITS FALSE NEIGHBOUR: 'it returns false'. Refute it at one input. -/
def hierBudgetWrong : ChangeSpec := { name := "hierBudget", fn := fun _ => fun
  | [d1, d2] => { results := [.lit (.bool false)], args := [d1, d2] }
  | _ => none }
def HierBudgetWrongFalsely : Prop := hierBudgetRow.holds Tryz.pinned (OpenSpec.ofChange hierBudgetWrong)

/-- 'gloaminglaw15.HierStar': WHATEVER THE INPUT: true; the input reads as it did. -/
def hierStarSpec : ChangeSpec := { name := "hierStar", fn := fun _ => fun
  | [d1, d2] => { results := [.lit (.bool true)], args := [d1, d2] }
  | _ => none }
def hierStarRow : OpenClaim := { program := "ytaellcgglldjaaagreat", sum := "d92e92646a28a3c66e7d3e41214b63723dfcc4ff1ca5e7629416807a7aaf8773", func := "gloaming/gloaminglaw15.HierStar", spec := "hierStar", unfollowed := true, recurses := true, plainKeys := false, apart := false }
def HierStarSaid : Prop := hierStarRow.holds Tryz.pinned (OpenSpec.ofChange hierStarSpec)

/-- ITS FALSE NEIGHBOUR: 'it returns false'. Refute it at one input. -/
def hierStarWrong : ChangeSpec := { name := "hierStar", fn := fun _ => fun
  | [d1, d2] => { results := [.lit (.bool false)], args := [d1, d2] }
  | _ => none }
def HierStarWrongFalsely : Prop := hierStarRow.holds Tryz.pinned (OpenSpec.ofChange hierStarWrong)

/-- 'gloaminglaw15.HierLeast': WHATEVER THE INPUT: true; the input reads as it did. -/
def hierLeastSpec : ChangeSpec := { name := "hierLeast", fn := fun _ => fun
  | [d1, d2] => { results := [.lit (.bool true)], args := [d1, d2] }
  | _ => none }
def hierLeastRow : OpenClaim := { program := "ytaellcgglldjaaagreat", sum := "d92e92646a28a3c66e7d3e41214b63723dfcc4ff1ca5e7629416807a7aaf8773", func := "gloaming/gloaminglaw15.HierLeast", spec := "hierLeast", unfollowed := true, recurses := true, plainKeys := false, apart := false }
def HierLeastSaid : Prop := hierLeastRow.holds Tryz.pinned (OpenSpec.ofChange hierLeastSpec)

/-- ITS FALSE NEIGHBOUR: 'it returns false'. Refute it at one input. -/
def hierLeastWrong : ChangeSpec := { name := "hierLeast", fn := fun _ => fun
  | [d1, d2] => { results := [.lit (.bool false)], args := [d1, d2] }
  | _ => none }
def HierLeastWrongFalsely : Prop := hierLeastRow.holds Tryz.pinned (OpenSpec.ofChange hierLeastWrong)

/- THE SECOND FORM. 'bulk': how many values and letters a reading holds, each counted each time it is reached (what is shared counts as often as it is met; a slice's spare places count too). A statement '..UptoSaid' is the law's where the arguments, and the package variables that the reading takes, are together of bulk at most 1048576: NARROWER than '..Said'. Prove '..Said' where nothing that the law and all that it calls make is longer than what came in: it says more and counts as full. Else prove '..UptoSaid'. A law counts once. -/
mutual
def uptoBulk {H : Type} : DataW H → Nat
  | .lit (.string bytes) => bytes.length + 1
  | .lit _ => 1
  | .nil => 1
  | .ptr d => uptoBulk d + 1
  | .slice elems spare => uptoBulkAll elems + uptoBulkAll spare + 1
  | .agg parts => uptoBulkAll parts + 1
  | .iface _ d => uptoBulk d + 1
  | .map entries => uptoBulkEntries entries + 1
  | .held _ => 1
def uptoBulkAll {H : Type} : List (DataW H) → Nat
  | [] => 0
  | d :: r => uptoBulk d + uptoBulkAll r
def uptoBulkEntries {H : Type} : List (Lit × DataW H) → Nat
  | [] => 0
  | x :: r => uptoBulkEntry x + uptoBulkEntries r
def uptoBulkEntry {H : Type} : Lit × DataW H → Nat
  | (.string bytes, d) => bytes.length + uptoBulk d + 1
  | (_, d) => uptoBulk d + 1
 end
def uptoSmall : (H : Type) → List (DataW H) → Bool := fun _ ds => decide (uptoBulkAll ds ≤ 1048576)
def OpenSpec.upto (s : _root_.Go.ChangeSpec) : _root_.Go.OpenSpec := { _root_.Go.OpenSpec.ofChange s with cond := some uptoSmall }

/-- 'gloaminglaw15.HierFinds', WHERE WHAT IT READS IS OF BULK AT MOST 1048576: true; the input reads as it did. -/
def hierFindsUptoRow : OpenClaim := { program := "ytaellcgglldjaaagreat", sum := "d92e92646a28a3c66e7d3e41214b63723dfcc4ff1ca5e7629416807a7aaf8773", func := "gloaming/gloaminglaw15.HierFinds", spec := "hierFinds", unfollowed := true, recurses := true, plainKeys := false, apart := false, narrowed := true }
def HierFindsUptoSaid : Prop := hierFindsUptoRow.holds Tryz.pinned (OpenSpec.upto hierFindsSpec)

/-- 'gloaminglaw15.HierBacks', WHERE WHAT IT READS IS OF BULK AT MOST 1048576: true; the input reads as it did. -/
def hierBacksUptoRow : OpenClaim := { program := "ytaellcgglldjaaagreat", sum := "d92e92646a28a3c66e7d3e41214b63723dfcc4ff1ca5e7629416807a7aaf8773", func := "gloaming/gloaminglaw15.HierBacks", spec := "hierBacks", unfollowed := true, recurses := true, plainKeys := false, apart := false, narrowed := true }
def HierBacksUptoSaid : Prop := hierBacksUptoRow.holds Tryz.pinned (OpenSpec.upto hierBacksSpec)

/-- 'gloaminglaw15.HierNodes', WHERE WHAT IT READS IS OF BULK AT MOST 1048576: true; the input reads as it did. -/
def hierNodesUptoRow : OpenClaim := { program := "ytaellcgglldjaaagreat", sum := "d92e92646a28a3c66e7d3e41214b63723dfcc4ff1ca5e7629416807a7aaf8773", func := "gloaming/gloaminglaw15.HierNodes", spec := "hierNodes", unfollowed := true, recurses := true, plainKeys := false, apart := false, narrowed := true }
def HierNodesUptoSaid : Prop := hierNodesUptoRow.holds Tryz.pinned (OpenSpec.upto hierNodesSpec)

/-- 'gloaminglaw15.HierBudget', WHERE WHAT IT READS IS OF BULK AT MOST 1048576: true; the input reads as it did. -/
def hierBudgetUptoRow : OpenClaim := { program := "ytaellcgglldjaaagreat", sum := "d92e92646a28a3c66e7d3e41214b63723dfcc4ff1ca5e7629416807a7aaf8773", func := "gloaming/gloaminglaw15.HierBudget", spec := "hierBudget", unfollowed := true, recurses := true, plainKeys := false, apart := false, narrowed := true }
def HierBudgetUptoSaid : Prop := hierBudgetUptoRow.holds Tryz.pinned (OpenSpec.upto hierBudgetSpec)

/-- 'gloaminglaw15.HierStar', WHERE WHAT IT READS IS OF BULK AT MOST 1048576: true; the input reads as it did. -/
def hierStarUptoRow : OpenClaim := { program := "ytaellcgglldjaaagreat", sum := "d92e92646a28a3c66e7d3e41214b63723dfcc4ff1ca5e7629416807a7aaf8773", func := "gloaming/gloaminglaw15.HierStar", spec := "hierStar", unfollowed := true, recurses := true, plainKeys := false, apart := false, narrowed := true }
def HierStarUptoSaid : Prop := hierStarUptoRow.holds Tryz.pinned (OpenSpec.upto hierStarSpec)

/-- 'gloaminglaw15.HierLeast', WHERE WHAT IT READS IS OF BULK AT MOST 1048576: true; the input reads as it did. -/
def hierLeastUptoRow : OpenClaim := { program := "ytaellcgglldjaaagreat", sum := "d92e92646a28a3c66e7d3e41214b63723dfcc4ff1ca5e7629416807a7aaf8773", func := "gloaming/gloaminglaw15.HierLeast", spec := "hierLeast", unfollowed := true, recurses := true, plainKeys := false, apart := false, narrowed := true }
def HierLeastUptoSaid : Prop := hierLeastUptoRow.holds Tryz.pinned (OpenSpec.upto hierLeastSpec)

end Rows
end Go.Proofs.YtaellcgglldjaaaGreat
