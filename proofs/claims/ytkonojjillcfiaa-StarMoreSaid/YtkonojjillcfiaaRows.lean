/-
  No cell of these rows narrows 'for every input' (looked for: loops, veiled, ifaces, maps, wideKeys, modest, calm, conditions, laid).
  DERIVED. THE GIVEN ROWS OF THIS SEAT. 12 by the template 'for every input the law returns true; each argument reads behind the call as it read before'; 0 by the template 'total and deterministic' (their statements: YtkonojjillcfiaaTotals.lean).
  GIVEN WITH THE SEED: the statements are not yours to turn. If you find one false, say at which input.
  Laid BY PROGRAM, IN A SANDBOX (cutbox-rows.mjs): the forced cells as the released guide's own fill.sh prints them over the translation 87ef5d1fbc809e09… (all of the seat's roots in one cut). By AI agents, Wed Nov 11 2026. No macro, syntax, notation, axiom, sorry.
-/
import Derived.Test.YtkonojjillcfiaaChecked
import GoSem.Claim
import GoSem.ClaimJoined
import GoSem.ClaimMapViews
import Derived.JoinedTies
import Derived.KernelRfl
namespace Go.Proofs.Ytkonojjillcfiaa
/- THE CELL 'sum', in the pinned program and in every row, IS THE sha256 OF THE DUMP (.gsa) THAT YtkonojjillcfiaaProg.lean LOADS. Nothing in Lean hashes anything: it is a label: what it is worth is what the hold of that sum in a sandbox is worth. -/
noncomputable def Try.pinned : Pinned := { name := "ytkonojjillcfiaa", sum := "87ef5d1fbc809e09879aa37e39e2002bbd85d73a9ae337a86345e07f7f8577d7", checked := Try.checked }
namespace Rows
def none {H : Type} : Left H := { results := [], args := [] }

/-- 'gloaminglaw12.GateBetween': WHATEVER THE INPUT: true; the input reads as it did. -/
def gateBetweenSpec : ChangeSpec := { name := "gateBetween", fn := fun _ => fun
  | [d1, d2, d3] => { results := [.lit (.bool true)], args := [d1, d2, d3] }
  | _ => none }
def gateBetweenRow : OpenClaim := { program := "ytkonojjillcfiaa", sum := "87ef5d1fbc809e09879aa37e39e2002bbd85d73a9ae337a86345e07f7f8577d7", func := "gloaming/gloaminglaw12.GateBetween", spec := "gateBetween", unfollowed := true, recurses := true, apart := false }
def GateBetweenSaid : Prop := gateBetweenRow.holds Try.pinned (OpenSpec.ofChange gateBetweenSpec)

/-- ITS FALSE NEIGHBOUR: 'it returns false'. Refute it at one input. -/
def gateBetweenWrong : ChangeSpec := { name := "gateBetween", fn := fun _ => fun
  | [d1, d2, d3] => { results := [.lit (.bool false)], args := [d1, d2, d3] }
  | _ => none }
def GateBetweenWrongFalsely : Prop := gateBetweenRow.holds Try.pinned (OpenSpec.ofChange gateBetweenWrong)

/-- 'gloaminglaw12.GateRuns': WHATEVER THE INPUT: true; the input reads as it did. -/
def gateRunsSpec : ChangeSpec := { name := "gateRuns", fn := fun _ => fun
  | [d1, d2, d3] => { results := [.lit (.bool true)], args := [d1, d2, d3] }
  | _ => none }
def gateRunsRow : OpenClaim := { program := "ytkonojjillcfiaa", sum := "87ef5d1fbc809e09879aa37e39e2002bbd85d73a9ae337a86345e07f7f8577d7", func := "gloaming/gloaminglaw12.GateRuns", spec := "gateRuns", unfollowed := true, recurses := true, apart := false }
def GateRunsSaid : Prop := gateRunsRow.holds Try.pinned (OpenSpec.ofChange gateRunsSpec)

/-- ITS FALSE NEIGHBOUR: 'it returns false'. Refute it at one input. -/
def gateRunsWrong : ChangeSpec := { name := "gateRuns", fn := fun _ => fun
  | [d1, d2, d3] => { results := [.lit (.bool false)], args := [d1, d2, d3] }
  | _ => none }
def GateRunsWrongFalsely : Prop := gateRunsRow.holds Try.pinned (OpenSpec.ofChange gateRunsWrong)

/-- 'gloaminglaw10.StarFinds': WHATEVER THE INPUT: true; the input reads as it did. -/
def starFindsSpec : ChangeSpec := { name := "starFinds", fn := fun _ => fun
  | [d1, d2] => { results := [.lit (.bool true)], args := [d1, d2] }
  | _ => none }
def starFindsRow : OpenClaim := { program := "ytkonojjillcfiaa", sum := "87ef5d1fbc809e09879aa37e39e2002bbd85d73a9ae337a86345e07f7f8577d7", func := "gloaming/gloaminglaw10.StarFinds", spec := "starFinds", unfollowed := true, recurses := true, apart := false }
def StarFindsSaid : Prop := starFindsRow.holds Try.pinned (OpenSpec.ofChange starFindsSpec)

/-- ITS FALSE NEIGHBOUR: 'it returns false'. Refute it at one input. -/
def starFindsWrong : ChangeSpec := { name := "starFinds", fn := fun _ => fun
  | [d1, d2] => { results := [.lit (.bool false)], args := [d1, d2] }
  | _ => none }
def StarFindsWrongFalsely : Prop := starFindsRow.holds Try.pinned (OpenSpec.ofChange starFindsWrong)

/-- 'gloaminglaw10.StarBudget': WHATEVER THE INPUT: true; the input reads as it did. -/
def starBudgetSpec : ChangeSpec := { name := "starBudget", fn := fun _ => fun
  | [d1, d2] => { results := [.lit (.bool true)], args := [d1, d2] }
  | _ => none }
def starBudgetRow : OpenClaim := { program := "ytkonojjillcfiaa", sum := "87ef5d1fbc809e09879aa37e39e2002bbd85d73a9ae337a86345e07f7f8577d7", func := "gloaming/gloaminglaw10.StarBudget", spec := "starBudget", unfollowed := true, recurses := true, apart := false }
def StarBudgetSaid : Prop := starBudgetRow.holds Try.pinned (OpenSpec.ofChange starBudgetSpec)

/-- ITS FALSE NEIGHBOUR: 'it returns false'. Refute it at one input. -/
def starBudgetWrong : ChangeSpec := { name := "starBudget", fn := fun _ => fun
  | [d1, d2] => { results := [.lit (.bool false)], args := [d1, d2] }
  | _ => none }
def StarBudgetWrongFalsely : Prop := starBudgetRow.holds Try.pinned (OpenSpec.ofChange starBudgetWrong)

/-- 'gloaminglaw10.StarOwn': WHATEVER THE INPUT: true; the input reads as it did. -/
def starOwnSpec : ChangeSpec := { name := "starOwn", fn := fun _ => fun
  | [d1, d2] => { results := [.lit (.bool true)], args := [d1, d2] }
  | _ => none }
def starOwnRow : OpenClaim := { program := "ytkonojjillcfiaa", sum := "87ef5d1fbc809e09879aa37e39e2002bbd85d73a9ae337a86345e07f7f8577d7", func := "gloaming/gloaminglaw10.StarOwn", spec := "starOwn", unfollowed := true, recurses := true, apart := false }
def StarOwnSaid : Prop := starOwnRow.holds Try.pinned (OpenSpec.ofChange starOwnSpec)

/-- ITS FALSE NEIGHBOUR: 'it returns false'. Refute it at one input. -/
def starOwnWrong : ChangeSpec := { name := "starOwn", fn := fun _ => fun
  | [d1, d2] => { results := [.lit (.bool false)], args := [d1, d2] }
  | _ => none }
def StarOwnWrongFalsely : Prop := starOwnRow.holds Try.pinned (OpenSpec.ofChange starOwnWrong)

/-- 'gloaminglaw10.StarMore': WHATEVER THE INPUT: true; the input reads as it did. -/
def starMoreSpec : ChangeSpec := { name := "starMore", fn := fun _ => fun
  | [d1, d2, d3] => { results := [.lit (.bool true)], args := [d1, d2, d3] }
  | _ => none }
def starMoreRow : OpenClaim := { program := "ytkonojjillcfiaa", sum := "87ef5d1fbc809e09879aa37e39e2002bbd85d73a9ae337a86345e07f7f8577d7", func := "gloaming/gloaminglaw10.StarMore", spec := "starMore", unfollowed := true, recurses := true, apart := false }
def StarMoreSaid : Prop := starMoreRow.holds Try.pinned (OpenSpec.ofChange starMoreSpec)

/-- ITS FALSE NEIGHBOUR: 'it returns false'. Refute it at one input. -/
def starMoreWrong : ChangeSpec := { name := "starMore", fn := fun _ => fun
  | [d1, d2, d3] => { results := [.lit (.bool false)], args := [d1, d2, d3] }
  | _ => none }
def StarMoreWrongFalsely : Prop := starMoreRow.holds Try.pinned (OpenSpec.ofChange starMoreWrong)

/-- 'gloaminglaw08.FloodFar': WHATEVER THE INPUT: true; the input reads as it did. -/
def floodFarSpec : ChangeSpec := { name := "floodFar", fn := fun _ => fun
  | [d1, d2, d3] => { results := [.lit (.bool true)], args := [d1, d2, d3] }
  | _ => none }
def floodFarRow : OpenClaim := { program := "ytkonojjillcfiaa", sum := "87ef5d1fbc809e09879aa37e39e2002bbd85d73a9ae337a86345e07f7f8577d7", func := "gloaming/gloaminglaw08.FloodFar", spec := "floodFar", unfollowed := true, recurses := true, apart := false }
def FloodFarSaid : Prop := floodFarRow.holds Try.pinned (OpenSpec.ofChange floodFarSpec)

/-- ITS FALSE NEIGHBOUR: 'it returns false'. Refute it at one input. -/
def floodFarWrong : ChangeSpec := { name := "floodFar", fn := fun _ => fun
  | [d1, d2, d3] => { results := [.lit (.bool false)], args := [d1, d2, d3] }
  | _ => none }
def FloodFarWrongFalsely : Prop := floodFarRow.holds Try.pinned (OpenSpec.ofChange floodFarWrong)

/-- 'gloaminglaw08.FloodPaths': WHATEVER THE INPUT: true; the input reads as it did. -/
def floodPathsSpec : ChangeSpec := { name := "floodPaths", fn := fun _ => fun
  | [d1, d2, d3] => { results := [.lit (.bool true)], args := [d1, d2, d3] }
  | _ => none }
def floodPathsRow : OpenClaim := { program := "ytkonojjillcfiaa", sum := "87ef5d1fbc809e09879aa37e39e2002bbd85d73a9ae337a86345e07f7f8577d7", func := "gloaming/gloaminglaw08.FloodPaths", spec := "floodPaths", unfollowed := true, recurses := true, apart := false }
def FloodPathsSaid : Prop := floodPathsRow.holds Try.pinned (OpenSpec.ofChange floodPathsSpec)

/-- ITS FALSE NEIGHBOUR: 'it returns false'. Refute it at one input. -/
def floodPathsWrong : ChangeSpec := { name := "floodPaths", fn := fun _ => fun
  | [d1, d2, d3] => { results := [.lit (.bool false)], args := [d1, d2, d3] }
  | _ => none }
def FloodPathsWrongFalsely : Prop := floodPathsRow.holds Try.pinned (OpenSpec.ofChange floodPathsWrong)

/-- 'gloaminglaw08.FloodNear': WHATEVER THE INPUT: true; the input reads as it did. -/
def floodNearSpec : ChangeSpec := { name := "floodNear", fn := fun _ => fun
  | [d1, d2, d3] => { results := [.lit (.bool true)], args := [d1, d2, d3] }
  | _ => none }
def floodNearRow : OpenClaim := { program := "ytkonojjillcfiaa", sum := "87ef5d1fbc809e09879aa37e39e2002bbd85d73a9ae337a86345e07f7f8577d7", func := "gloaming/gloaminglaw08.FloodNear", spec := "floodNear", unfollowed := true, recurses := true, apart := false }
def FloodNearSaid : Prop := floodNearRow.holds Try.pinned (OpenSpec.ofChange floodNearSpec)

/-- ITS FALSE NEIGHBOUR: 'it returns false'. Refute it at one input. -/
def floodNearWrong : ChangeSpec := { name := "floodNear", fn := fun _ => fun
  | [d1, d2, d3] => { results := [.lit (.bool false)], args := [d1, d2, d3] }
  | _ => none }
def FloodNearWrongFalsely : Prop := floodNearRow.holds Try.pinned (OpenSpec.ofChange floodNearWrong)

/-- 'gloaminglaw08.FloodBacks': WHATEVER THE INPUT: true; the input reads as it did. -/
def floodBacksSpec : ChangeSpec := { name := "floodBacks", fn := fun _ => fun
  | [d1, d2, d3] => { results := [.lit (.bool true)], args := [d1, d2, d3] }
  | _ => none }
def floodBacksRow : OpenClaim := { program := "ytkonojjillcfiaa", sum := "87ef5d1fbc809e09879aa37e39e2002bbd85d73a9ae337a86345e07f7f8577d7", func := "gloaming/gloaminglaw08.FloodBacks", spec := "floodBacks", unfollowed := true, recurses := true, apart := false }
def FloodBacksSaid : Prop := floodBacksRow.holds Try.pinned (OpenSpec.ofChange floodBacksSpec)

/-- ITS FALSE NEIGHBOUR: 'it returns false'. Refute it at one input. -/
def floodBacksWrong : ChangeSpec := { name := "floodBacks", fn := fun _ => fun
  | [d1, d2, d3] => { results := [.lit (.bool false)], args := [d1, d2, d3] }
  | _ => none }
def FloodBacksWrongFalsely : Prop := floodBacksRow.holds Try.pinned (OpenSpec.ofChange floodBacksWrong)

/-- 'gloaminglaw08.FloodWays': WHATEVER THE INPUT: true; the input reads as it did. -/
def floodWaysSpec : ChangeSpec := { name := "floodWays", fn := fun _ => fun
  | [d1, d2, d3] => { results := [.lit (.bool true)], args := [d1, d2, d3] }
  | _ => none }
def floodWaysRow : OpenClaim := { program := "ytkonojjillcfiaa", sum := "87ef5d1fbc809e09879aa37e39e2002bbd85d73a9ae337a86345e07f7f8577d7", func := "gloaming/gloaminglaw08.FloodWays", spec := "floodWays", unfollowed := true, recurses := true, apart := false }
def FloodWaysSaid : Prop := floodWaysRow.holds Try.pinned (OpenSpec.ofChange floodWaysSpec)

/-- ITS FALSE NEIGHBOUR: 'it returns false'. Refute it at one input. -/
def floodWaysWrong : ChangeSpec := { name := "floodWays", fn := fun _ => fun
  | [d1, d2, d3] => { results := [.lit (.bool false)], args := [d1, d2, d3] }
  | _ => none }
def FloodWaysWrongFalsely : Prop := floodWaysRow.holds Try.pinned (OpenSpec.ofChange floodWaysWrong)

/-- 'gloaminglaw08.FloodThree': WHATEVER THE INPUT: true; the input reads as it did. -/
def floodThreeSpec : ChangeSpec := { name := "floodThree", fn := fun _ => fun
  | [d1, d2, d3] => { results := [.lit (.bool true)], args := [d1, d2, d3] }
  | _ => none }
def floodThreeRow : OpenClaim := { program := "ytkonojjillcfiaa", sum := "87ef5d1fbc809e09879aa37e39e2002bbd85d73a9ae337a86345e07f7f8577d7", func := "gloaming/gloaminglaw08.FloodThree", spec := "floodThree", unfollowed := true, recurses := true, apart := false }
def FloodThreeSaid : Prop := floodThreeRow.holds Try.pinned (OpenSpec.ofChange floodThreeSpec)

/-- ITS FALSE NEIGHBOUR: 'it returns false'. Refute it at one input. -/
def floodThreeWrong : ChangeSpec := { name := "floodThree", fn := fun _ => fun
  | [d1, d2, d3] => { results := [.lit (.bool false)], args := [d1, d2, d3] }
  | _ => none }
def FloodThreeWrongFalsely : Prop := floodThreeRow.holds Try.pinned (OpenSpec.ofChange floodThreeWrong)

/- THE SECOND FORM. 'bulk': how many values and letters a reading holds, each counted each time it is reached (what is shared counts as often as it is met; a slice's spare places count too). A statement '..UptoSaid' is the law's where the arguments, and the package variables that the reading takes, are together of bulk at most 1048576: NARROWER than '..Said'. Prove '..Said' where nothing that the law and all that it calls make is longer than what came in: it says more and counts as full. Else prove '..UptoSaid'. A law counts once. -/
mutual
def uptoBulk {H : Type} : DataW H → Nat
  | .lit (.string bytes) => bytes.length + 1
  | .lit _ => 1
  | .nil => 1
  | .ptr d => uptoBulk d + 1
  | .slice elems spare => uptoBulkAll elems + uptoBulkAll spare + 1
  | .agg parts => uptoBulkAll parts + 1
  | .iface _ d => uptoBulk d + 1
  | .map entries => uptoBulkEntries entries + 1
  | .held _ => 1
def uptoBulkAll {H : Type} : List (DataW H) → Nat
  | [] => 0
  | d :: r => uptoBulk d + uptoBulkAll r
def uptoBulkEntries {H : Type} : List (Lit × DataW H) → Nat
  | [] => 0
  | x :: r => uptoBulkEntry x + uptoBulkEntries r
def uptoBulkEntry {H : Type} : Lit × DataW H → Nat
  | (.string bytes, d) => bytes.length + uptoBulk d + 1
  | (_, d) => uptoBulk d + 1
 end
def uptoSmall : (H : Type) → List (DataW H) → Bool := fun _ ds => decide (uptoBulkAll ds ≤ 1048576)
def OpenSpec.upto (s : _root_.Go.ChangeSpec) : _root_.Go.OpenSpec := { _root_.Go.OpenSpec.ofChange s with cond := some uptoSmall }

/-- 'gloaminglaw12.GateBetween', WHERE WHAT IT READS IS OF BULK AT MOST 1048576: true; the input reads as it did. -/
def gateBetweenUptoRow : OpenClaim := { program := "ytkonojjillcfiaa", sum := "87ef5d1fbc809e09879aa37e39e2002bbd85d73a9ae337a86345e07f7f8577d7", func := "gloaming/gloaminglaw12.GateBetween", spec := "gateBetween", unfollowed := true, recurses := true, apart := false, narrowed := true }
def GateBetweenUptoSaid : Prop := gateBetweenUptoRow.holds Try.pinned (OpenSpec.upto gateBetweenSpec)

/-- 'gloaminglaw12.GateRuns', WHERE WHAT IT READS IS OF BULK AT MOST 1048576: true; the input reads as it did. -/
def gateRunsUptoRow : OpenClaim := { program := "ytkonojjillcfiaa", sum := "87ef5d1fbc809e09879aa37e39e2002bbd85d73a9ae337a86345e07f7f8577d7", func := "gloaming/gloaminglaw12.GateRuns", spec := "gateRuns", unfollowed := true, recurses := true, apart := false, narrowed := true }
def GateRunsUptoSaid : Prop := gateRunsUptoRow.holds Try.pinned (OpenSpec.upto gateRunsSpec)

/-- 'gloaminglaw10.StarFinds', WHERE WHAT IT READS IS OF BULK AT MOST 1048576: true; the input reads as it did. -/
def starFindsUptoRow : OpenClaim := { program := "ytkonojjillcfiaa", sum := "87ef5d1fbc809e09879aa37e39e2002bbd85d73a9ae337a86345e07f7f8577d7", func := "gloaming/gloaminglaw10.StarFinds", spec := "starFinds", unfollowed := true, recurses := true, apart := false, narrowed := true }
def StarFindsUptoSaid : Prop := starFindsUptoRow.holds Try.pinned (OpenSpec.upto starFindsSpec)

/-- 'gloaminglaw10.StarBudget', WHERE WHAT IT READS IS OF BULK AT MOST 1048576: true; the input reads as it did. -/
def starBudgetUptoRow : OpenClaim := { program := "ytkonojjillcfiaa", sum := "87ef5d1fbc809e09879aa37e39e2002bbd85d73a9ae337a86345e07f7f8577d7", func := "gloaming/gloaminglaw10.StarBudget", spec := "starBudget", unfollowed := true, recurses := true, apart := false, narrowed := true }
def StarBudgetUptoSaid : Prop := starBudgetUptoRow.holds Try.pinned (OpenSpec.upto starBudgetSpec)

/-- 'gloaminglaw10.StarOwn', WHERE WHAT IT READS IS OF BULK AT MOST 1048576: true; the input reads as it did. -/
def starOwnUptoRow : OpenClaim := { program := "ytkonojjillcfiaa", sum := "87ef5d1fbc809e09879aa37e39e2002bbd85d73a9ae337a86345e07f7f8577d7", func := "gloaming/gloaminglaw10.StarOwn", spec := "starOwn", unfollowed := true, recurses := true, apart := false, narrowed := true }
def StarOwnUptoSaid : Prop := starOwnUptoRow.holds Try.pinned (OpenSpec.upto starOwnSpec)

/-- 'gloaminglaw10.StarMore', WHERE WHAT IT READS IS OF BULK AT MOST 1048576: true; the input reads as it did. -/
def starMoreUptoRow : OpenClaim := { program := "ytkonojjillcfiaa", sum := "87ef5d1fbc809e09879aa37e39e2002bbd85d73a9ae337a86345e07f7f8577d7", func := "gloaming/gloaminglaw10.StarMore", spec := "starMore", unfollowed := true, recurses := true, apart := false, narrowed := true }
def StarMoreUptoSaid : Prop := starMoreUptoRow.holds Try.pinned (OpenSpec.upto starMoreSpec)

/-- 'gloaminglaw08.FloodFar', WHERE WHAT IT READS IS OF BULK AT MOST 1048576: true; the input reads as it did. -/
def floodFarUptoRow : OpenClaim := { program := "ytkonojjillcfiaa", sum := "87ef5d1fbc809e09879aa37e39e2002bbd85d73a9ae337a86345e07f7f8577d7", func := "gloaming/gloaminglaw08.FloodFar", spec := "floodFar", unfollowed := true, recurses := true, apart := false, narrowed := true }
def FloodFarUptoSaid : Prop := floodFarUptoRow.holds Try.pinned (OpenSpec.upto floodFarSpec)

/-- 'gloaminglaw08.FloodPaths', WHERE WHAT IT READS IS OF BULK AT MOST 1048576: true; the input reads as it did. -/
def floodPathsUptoRow : OpenClaim := { program := "ytkonojjillcfiaa", sum := "87ef5d1fbc809e09879aa37e39e2002bbd85d73a9ae337a86345e07f7f8577d7", func := "gloaming/gloaminglaw08.FloodPaths", spec := "floodPaths", unfollowed := true, recurses := true, apart := false, narrowed := true }
def FloodPathsUptoSaid : Prop := floodPathsUptoRow.holds Try.pinned (OpenSpec.upto floodPathsSpec)

/-- 'gloaminglaw08.FloodNear', WHERE WHAT IT READS IS OF BULK AT MOST 1048576: true; the input reads as it did. -/
def floodNearUptoRow : OpenClaim := { program := "ytkonojjillcfiaa", sum := "87ef5d1fbc809e09879aa37e39e2002bbd85d73a9ae337a86345e07f7f8577d7", func := "gloaming/gloaminglaw08.FloodNear", spec := "floodNear", unfollowed := true, recurses := true, apart := false, narrowed := true }
def FloodNearUptoSaid : Prop := floodNearUptoRow.holds Try.pinned (OpenSpec.upto floodNearSpec)

/-- 'gloaminglaw08.FloodBacks', WHERE WHAT IT READS IS OF BULK AT MOST 1048576: true; the input reads as it did. -/
def floodBacksUptoRow : OpenClaim := { program := "ytkonojjillcfiaa", sum := "87ef5d1fbc809e09879aa37e39e2002bbd85d73a9ae337a86345e07f7f8577d7", func := "gloaming/gloaminglaw08.FloodBacks", spec := "floodBacks", unfollowed := true, recurses := true, apart := false, narrowed := true }
def FloodBacksUptoSaid : Prop := floodBacksUptoRow.holds Try.pinned (OpenSpec.upto floodBacksSpec)

/-- 'gloaminglaw08.FloodWays', WHERE WHAT IT READS IS OF BULK AT MOST 1048576: true; the input reads as it did. -/
def floodWaysUptoRow : OpenClaim := { program := "ytkonojjillcfiaa", sum := "87ef5d1fbc809e09879aa37e39e2002bbd85d73a9ae337a86345e07f7f8577d7", func := "gloaming/gloaminglaw08.FloodWays", spec := "floodWays", unfollowed := true, recurses := true, apart := false, narrowed := true }
def FloodWaysUptoSaid : Prop := floodWaysUptoRow.holds Try.pinned (OpenSpec.upto floodWaysSpec)

/-- 'gloaminglaw08.FloodThree', WHERE WHAT IT READS IS OF BULK AT MOST 1048576: true; the input reads as it did. -/
def floodThreeUptoRow : OpenClaim := { program := "ytkonojjillcfiaa", sum := "87ef5d1fbc809e09879aa37e39e2002bbd85d73a9ae337a86345e07f7f8577d7", func := "gloaming/gloaminglaw08.FloodThree", spec := "floodThree", unfollowed := true, recurses := true, apart := false, narrowed := true }
def FloodThreeUptoSaid : Prop := floodThreeUptoRow.holds Try.pinned (OpenSpec.upto floodThreeSpec)

end Rows
end Go.Proofs.Ytkonojjillcfiaa
