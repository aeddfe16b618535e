/-
  No cell of these rows narrows 'for every input' (looked for: loops, veiled, ifaces, maps, wideKeys, modest, calm, conditions, laid).
  DERIVED. THE GIVEN ROWS OF THIS SEAT. 12 by the template 'for every input the law returns true; each argument reads behind the call as it read before'; 0 by the template 'total and deterministic' (their statements: YtifbmapianddcaaTotals.lean).
  GIVEN WITH THE SEED: the statements are not yours to turn. If you find one false, say at which input.
  Laid BY PROGRAM, IN A SANDBOX (cutbox-rows.mjs): the forced cells as the released guide's own fill.sh prints them over the translation 4088c0e490c6d430… (all of the seat's roots in one cut). By AI agents, Wed Nov 11 2026. No macro, syntax, notation, axiom, sorry.
-/
import Derived.Test.YtifbmapianddcaaChecked
import GoSem.Claim
import GoSem.ClaimJoined
import GoSem.ClaimMapViews
import Derived.JoinedTies
import Derived.KernelRfl
namespace Go.Proofs.Ytifbmapianddcaa
/- THE CELL 'sum', in the pinned program and in every row, IS THE sha256 OF THE DUMP (.gsa) THAT YtifbmapianddcaaProg.lean LOADS. Nothing in Lean hashes anything: it is a label: what it is worth is what the hold of that sum in a sandbox is worth. -/
noncomputable def Try.pinned : Pinned := { name := "ytifbmapianddcaa", sum := "4088c0e490c6d430ccfb6a08f7f2427fba9dd658414338cc9c266f5a0fc8ecb6", checked := Try.checked }
namespace Rows
def none {H : Type} : Left H := { results := [], args := [] }

/-- 'gloaminglaw10.StarSettles': WHATEVER THE INPUT: true; the input reads as it did. -/
def starSettlesSpec : ChangeSpec := { name := "starSettles", fn := fun _ => fun
  | [d1, d2] => { results := [.lit (.bool true)], args := [d1, d2] }
  | _ => none }
def starSettlesRow : OpenClaim := { program := "ytifbmapianddcaa", sum := "4088c0e490c6d430ccfb6a08f7f2427fba9dd658414338cc9c266f5a0fc8ecb6", func := "gloaming/gloaminglaw10.StarSettles", spec := "starSettles", unfollowed := true, recurses := true, apart := false }
def StarSettlesSaid : Prop := starSettlesRow.holds Try.pinned (OpenSpec.ofChange starSettlesSpec)

/-- ITS FALSE NEIGHBOUR: 'it returns false'. Refute it at one input. -/
def starSettlesWrong : ChangeSpec := { name := "starSettles", fn := fun _ => fun
  | [d1, d2] => { results := [.lit (.bool false)], args := [d1, d2] }
  | _ => none }
def StarSettlesWrongFalsely : Prop := starSettlesRow.holds Try.pinned (OpenSpec.ofChange starSettlesWrong)

/-- 'gloaminglaw10.StarLeast': WHATEVER THE INPUT: true; the input reads as it did. -/
def starLeastSpec : ChangeSpec := { name := "starLeast", fn := fun _ => fun
  | [d1, d2] => { results := [.lit (.bool true)], args := [d1, d2] }
  | _ => none }
def starLeastRow : OpenClaim := { program := "ytifbmapianddcaa", sum := "4088c0e490c6d430ccfb6a08f7f2427fba9dd658414338cc9c266f5a0fc8ecb6", func := "gloaming/gloaminglaw10.StarLeast", spec := "starLeast", unfollowed := true, recurses := true, apart := false }
def StarLeastSaid : Prop := starLeastRow.holds Try.pinned (OpenSpec.ofChange starLeastSpec)

/-- ITS FALSE NEIGHBOUR: 'it returns false'. Refute it at one input. -/
def starLeastWrong : ChangeSpec := { name := "starLeast", fn := fun _ => fun
  | [d1, d2] => { results := [.lit (.bool false)], args := [d1, d2] }
  | _ => none }
def StarLeastWrongFalsely : Prop := starLeastRow.holds Try.pinned (OpenSpec.ofChange starLeastWrong)

/-- 'gloaminglaw13.InnerOf': WHATEVER THE INPUT: true; the input reads as it did. -/
def innerOfSpec : ChangeSpec := { name := "innerOf", fn := fun _ => fun
  | [d1, d2, d3] => { results := [.lit (.bool true)], args := [d1, d2, d3] }
  | _ => none }
def innerOfRow : OpenClaim := { program := "ytifbmapianddcaa", sum := "4088c0e490c6d430ccfb6a08f7f2427fba9dd658414338cc9c266f5a0fc8ecb6", func := "gloaming/gloaminglaw13.InnerOf", spec := "innerOf", unfollowed := true, recurses := true, apart := false }
def InnerOfSaid : Prop := innerOfRow.holds Try.pinned (OpenSpec.ofChange innerOfSpec)

/-- ITS FALSE NEIGHBOUR: 'it returns false'. Refute it at one input. -/
def innerOfWrong : ChangeSpec := { name := "innerOf", fn := fun _ => fun
  | [d1, d2, d3] => { results := [.lit (.bool false)], args := [d1, d2, d3] }
  | _ => none }
def InnerOfWrongFalsely : Prop := innerOfRow.holds Try.pinned (OpenSpec.ofChange innerOfWrong)

/-- 'gloaminglaw13.InnerTo': WHATEVER THE INPUT: true; the input reads as it did. -/
def innerToSpec : ChangeSpec := { name := "innerTo", fn := fun _ => fun
  | [d1, d2, d3] => { results := [.lit (.bool true)], args := [d1, d2, d3] }
  | _ => none }
def innerToRow : OpenClaim := { program := "ytifbmapianddcaa", sum := "4088c0e490c6d430ccfb6a08f7f2427fba9dd658414338cc9c266f5a0fc8ecb6", func := "gloaming/gloaminglaw13.InnerTo", spec := "innerTo", unfollowed := true, recurses := true, apart := false }
def InnerToSaid : Prop := innerToRow.holds Try.pinned (OpenSpec.ofChange innerToSpec)

/-- ITS FALSE NEIGHBOUR: 'it returns false'. Refute it at one input. -/
def innerToWrong : ChangeSpec := { name := "innerTo", fn := fun _ => fun
  | [d1, d2, d3] => { results := [.lit (.bool false)], args := [d1, d2, d3] }
  | _ => none }
def InnerToWrongFalsely : Prop := innerToRow.holds Try.pinned (OpenSpec.ofChange innerToWrong)

/-- 'gloaminglaw13.InnerOwn': WHATEVER THE INPUT: true; the input reads as it did. -/
def innerOwnSpec : ChangeSpec := { name := "innerOwn", fn := fun _ => fun
  | [d1, d2, d3] => { results := [.lit (.bool true)], args := [d1, d2, d3] }
  | _ => none }
def innerOwnRow : OpenClaim := { program := "ytifbmapianddcaa", sum := "4088c0e490c6d430ccfb6a08f7f2427fba9dd658414338cc9c266f5a0fc8ecb6", func := "gloaming/gloaminglaw13.InnerOwn", spec := "innerOwn", unfollowed := true, recurses := true, apart := false }
def InnerOwnSaid : Prop := innerOwnRow.holds Try.pinned (OpenSpec.ofChange innerOwnSpec)

/-- ITS FALSE NEIGHBOUR: 'it returns false'. Refute it at one input. -/
def innerOwnWrong : ChangeSpec := { name := "innerOwn", fn := fun _ => fun
  | [d1, d2, d3] => { results := [.lit (.bool false)], args := [d1, d2, d3] }
  | _ => none }
def InnerOwnWrongFalsely : Prop := innerOwnRow.holds Try.pinned (OpenSpec.ofChange innerOwnWrong)

/-- 'gloaminglaw13.InnerSame': WHATEVER THE INPUT: true; the input reads as it did. -/
def innerSameSpec : ChangeSpec := { name := "innerSame", fn := fun _ => fun
  | [d1, d2] => { results := [.lit (.bool true)], args := [d1, d2] }
  | _ => none }
def innerSameRow : OpenClaim := { program := "ytifbmapianddcaa", sum := "4088c0e490c6d430ccfb6a08f7f2427fba9dd658414338cc9c266f5a0fc8ecb6", func := "gloaming/gloaminglaw13.InnerSame", spec := "innerSame", unfollowed := true, recurses := true, apart := false }
def InnerSameSaid : Prop := innerSameRow.holds Try.pinned (OpenSpec.ofChange innerSameSpec)

/-- ITS FALSE NEIGHBOUR: 'it returns false'. Refute it at one input. -/
def innerSameWrong : ChangeSpec := { name := "innerSame", fn := fun _ => fun
  | [d1, d2] => { results := [.lit (.bool false)], args := [d1, d2] }
  | _ => none }
def InnerSameWrongFalsely : Prop := innerSameRow.holds Try.pinned (OpenSpec.ofChange innerSameWrong)

/-- 'gloaminglaw13.InnerVia': WHATEVER THE INPUT: true; the input reads as it did. -/
def innerViaSpec : ChangeSpec := { name := "innerVia", fn := fun _ => fun
  | [d1, d2, d3] => { results := [.lit (.bool true)], args := [d1, d2, d3] }
  | _ => none }
def innerViaRow : OpenClaim := { program := "ytifbmapianddcaa", sum := "4088c0e490c6d430ccfb6a08f7f2427fba9dd658414338cc9c266f5a0fc8ecb6", func := "gloaming/gloaminglaw13.InnerVia", spec := "innerVia", unfollowed := true, recurses := true, apart := false }
def InnerViaSaid : Prop := innerViaRow.holds Try.pinned (OpenSpec.ofChange innerViaSpec)

/-- ITS FALSE NEIGHBOUR: 'it returns false'. Refute it at one input. -/
def innerViaWrong : ChangeSpec := { name := "innerVia", fn := fun _ => fun
  | [d1, d2, d3] => { results := [.lit (.bool false)], args := [d1, d2, d3] }
  | _ => none }
def InnerViaWrongFalsely : Prop := innerViaRow.holds Try.pinned (OpenSpec.ofChange innerViaWrong)

/-- 'gloaminglaw21.SessPlays': WHATEVER THE INPUT: true; the input reads as it did. -/
def sessPlaysSpec : ChangeSpec := { name := "sessPlays", fn := fun _ => fun
  | [d1, d2] => { results := [.lit (.bool true)], args := [d1, d2] }
  | _ => none }
def sessPlaysRow : OpenClaim := { program := "ytifbmapianddcaa", sum := "4088c0e490c6d430ccfb6a08f7f2427fba9dd658414338cc9c266f5a0fc8ecb6", func := "gloaming/gloaminglaw21.SessPlays", spec := "sessPlays", unfollowed := true, recurses := true, apart := false }
def SessPlaysSaid : Prop := sessPlaysRow.holds Try.pinned (OpenSpec.ofChange sessPlaysSpec)

/-- ITS FALSE NEIGHBOUR: 'it returns false'. Refute it at one input. -/
def sessPlaysWrong : ChangeSpec := { name := "sessPlays", fn := fun _ => fun
  | [d1, d2] => { results := [.lit (.bool false)], args := [d1, d2] }
  | _ => none }
def SessPlaysWrongFalsely : Prop := sessPlaysRow.holds Try.pinned (OpenSpec.ofChange sessPlaysWrong)

/-- 'gloaminglaw21.SessDraws': WHATEVER THE INPUT: true; the input reads as it did. -/
def sessDrawsSpec : ChangeSpec := { name := "sessDraws", fn := fun _ => fun
  | [d1, d2, d3] => { results := [.lit (.bool true)], args := [d1, d2, d3] }
  | _ => none }
def sessDrawsRow : OpenClaim := { program := "ytifbmapianddcaa", sum := "4088c0e490c6d430ccfb6a08f7f2427fba9dd658414338cc9c266f5a0fc8ecb6", func := "gloaming/gloaminglaw21.SessDraws", spec := "sessDraws", unfollowed := true, recurses := true, apart := false }
def SessDrawsSaid : Prop := sessDrawsRow.holds Try.pinned (OpenSpec.ofChange sessDrawsSpec)

/-- ITS FALSE NEIGHBOUR: 'it returns false'. Refute it at one input. -/
def sessDrawsWrong : ChangeSpec := { name := "sessDraws", fn := fun _ => fun
  | [d1, d2, d3] => { results := [.lit (.bool false)], args := [d1, d2, d3] }
  | _ => none }
def SessDrawsWrongFalsely : Prop := sessDrawsRow.holds Try.pinned (OpenSpec.ofChange sessDrawsWrong)

/-- 'gloaminglaw21.SessOwn': WHATEVER THE INPUT: true; the input reads as it did. -/
def sessOwnSpec : ChangeSpec := { name := "sessOwn", fn := fun _ => fun
  | [d1, d2, d3] => { results := [.lit (.bool true)], args := [d1, d2, d3] }
  | _ => none }
def sessOwnRow : OpenClaim := { program := "ytifbmapianddcaa", sum := "4088c0e490c6d430ccfb6a08f7f2427fba9dd658414338cc9c266f5a0fc8ecb6", func := "gloaming/gloaminglaw21.SessOwn", spec := "sessOwn", inPlace := ["maps.clone"], unfollowed := true, recurses := true, apart := false }
def SessOwnSaid : Prop := sessOwnRow.holds Try.pinned (OpenSpec.ofChange sessOwnSpec)

/-- ITS FALSE NEIGHBOUR: 'it returns false'. Refute it at one input. -/
def sessOwnWrong : ChangeSpec := { name := "sessOwn", fn := fun _ => fun
  | [d1, d2, d3] => { results := [.lit (.bool false)], args := [d1, d2, d3] }
  | _ => none }
def SessOwnWrongFalsely : Prop := sessOwnRow.holds Try.pinned (OpenSpec.ofChange sessOwnWrong)

/-- 'gloaminglaw12.GateStays': WHATEVER THE INPUT: true; the input reads as it did. -/
def gateStaysSpec : ChangeSpec := { name := "gateStays", fn := fun _ => fun
  | [d1, d2, d3] => { results := [.lit (.bool true)], args := [d1, d2, d3] }
  | _ => none }
def gateStaysRow : OpenClaim := { program := "ytifbmapianddcaa", sum := "4088c0e490c6d430ccfb6a08f7f2427fba9dd658414338cc9c266f5a0fc8ecb6", func := "gloaming/gloaminglaw12.GateStays", spec := "gateStays", unfollowed := true, recurses := true, apart := false }
def GateStaysSaid : Prop := gateStaysRow.holds Try.pinned (OpenSpec.ofChange gateStaysSpec)

/-- ITS FALSE NEIGHBOUR: 'it returns false'. Refute it at one input. -/
def gateStaysWrong : ChangeSpec := { name := "gateStays", fn := fun _ => fun
  | [d1, d2, d3] => { results := [.lit (.bool false)], args := [d1, d2, d3] }
  | _ => none }
def GateStaysWrongFalsely : Prop := gateStaysRow.holds Try.pinned (OpenSpec.ofChange gateStaysWrong)

/-- 'gloaminglaw12.GateCells': WHATEVER THE INPUT: true; the input reads as it did. -/
def gateCellsSpec : ChangeSpec := { name := "gateCells", fn := fun _ => fun
  | [d1, d2, d3] => { results := [.lit (.bool true)], args := [d1, d2, d3] }
  | _ => none }
def gateCellsRow : OpenClaim := { program := "ytifbmapianddcaa", sum := "4088c0e490c6d430ccfb6a08f7f2427fba9dd658414338cc9c266f5a0fc8ecb6", func := "gloaming/gloaminglaw12.GateCells", spec := "gateCells", unfollowed := true, recurses := true, apart := false }
def GateCellsSaid : Prop := gateCellsRow.holds Try.pinned (OpenSpec.ofChange gateCellsSpec)

/-- ITS FALSE NEIGHBOUR: 'it returns false'. Refute it at one input. -/
def gateCellsWrong : ChangeSpec := { name := "gateCells", fn := fun _ => fun
  | [d1, d2, d3] => { results := [.lit (.bool false)], args := [d1, d2, d3] }
  | _ => none }
def GateCellsWrongFalsely : Prop := gateCellsRow.holds Try.pinned (OpenSpec.ofChange gateCellsWrong)

/- THE SECOND FORM. 'bulk': how many values and letters a reading holds, each counted each time it is reached (what is shared counts as often as it is met; a slice's spare places count too). A statement '..UptoSaid' is the law's where the arguments, and the package variables that the reading takes, are together of bulk at most 1048576: NARROWER than '..Said'. Prove '..Said' where nothing that the law and all that it calls make is longer than what came in: it says more and counts as full. Else prove '..UptoSaid'. A law counts once. -/
mutual
def uptoBulk {H : Type} : DataW H → Nat
  | .lit (.string bytes) => bytes.length + 1
  | .lit _ => 1
  | .nil => 1
  | .ptr d => uptoBulk d + 1
  | .slice elems spare => uptoBulkAll elems + uptoBulkAll spare + 1
  | .agg parts => uptoBulkAll parts + 1
  | .iface _ d => uptoBulk d + 1
  | .map entries => uptoBulkEntries entries + 1
  | .held _ => 1
def uptoBulkAll {H : Type} : List (DataW H) → Nat
  | [] => 0
  | d :: r => uptoBulk d + uptoBulkAll r
def uptoBulkEntries {H : Type} : List (Lit × DataW H) → Nat
  | [] => 0
  | x :: r => uptoBulkEntry x + uptoBulkEntries r
def uptoBulkEntry {H : Type} : Lit × DataW H → Nat
  | (.string bytes, d) => bytes.length + uptoBulk d + 1
  | (_, d) => uptoBulk d + 1
 end
def uptoSmall : (H : Type) → List (DataW H) → Bool := fun _ ds => decide (uptoBulkAll ds ≤ 1048576)
def OpenSpec.upto (s : _root_.Go.ChangeSpec) : _root_.Go.OpenSpec := { _root_.Go.OpenSpec.ofChange s with cond := some uptoSmall }

/-- 'gloaminglaw10.StarSettles', WHERE WHAT IT READS IS OF BULK AT MOST 1048576: true; the input reads as it did. -/
def starSettlesUptoRow : OpenClaim := { program := "ytifbmapianddcaa", sum := "4088c0e490c6d430ccfb6a08f7f2427fba9dd658414338cc9c266f5a0fc8ecb6", func := "gloaming/gloaminglaw10.StarSettles", spec := "starSettles", unfollowed := true, recurses := true, apart := false, narrowed := true }
def StarSettlesUptoSaid : Prop := starSettlesUptoRow.holds Try.pinned (OpenSpec.upto starSettlesSpec)

/-- 'gloaminglaw10.StarLeast', WHERE WHAT IT READS IS OF BULK AT MOST 1048576: true; the input reads as it did. -/
def starLeastUptoRow : OpenClaim := { program := "ytifbmapianddcaa", sum := "4088c0e490c6d430ccfb6a08f7f2427fba9dd658414338cc9c266f5a0fc8ecb6", func := "gloaming/gloaminglaw10.StarLeast", spec := "starLeast", unfollowed := true, recurses := true, apart := false, narrowed := true }
def StarLeastUptoSaid : Prop := starLeastUptoRow.holds Try.pinned (OpenSpec.upto starLeastSpec)

/-- 'gloaminglaw13.InnerOf', WHERE WHAT IT READS IS OF BULK AT MOST 1048576: true; the input reads as it did. -/
def innerOfUptoRow : OpenClaim := { program := "ytifbmapianddcaa", sum := "4088c0e490c6d430ccfb6a08f7f2427fba9dd658414338cc9c266f5a0fc8ecb6", func := "gloaming/gloaminglaw13.InnerOf", spec := "innerOf", unfollowed := true, recurses := true, apart := false, narrowed := true }
def InnerOfUptoSaid : Prop := innerOfUptoRow.holds Try.pinned (OpenSpec.upto innerOfSpec)

/-- 'gloaminglaw13.InnerTo', WHERE WHAT IT READS IS OF BULK AT MOST 1048576: true; the input reads as it did. -/
def innerToUptoRow : OpenClaim := { program := "ytifbmapianddcaa", sum := "4088c0e490c6d430ccfb6a08f7f2427fba9dd658414338cc9c266f5a0fc8ecb6", func := "gloaming/gloaminglaw13.InnerTo", spec := "innerTo", unfollowed := true, recurses := true, apart := false, narrowed := true }
def InnerToUptoSaid : Prop := innerToUptoRow.holds Try.pinned (OpenSpec.upto innerToSpec)

/-- 'gloaminglaw13.InnerOwn', WHERE WHAT IT READS IS OF BULK AT MOST 1048576: true; the input reads as it did. -/
def innerOwnUptoRow : OpenClaim := { program := "ytifbmapianddcaa", sum := "4088c0e490c6d430ccfb6a08f7f2427fba9dd658414338cc9c266f5a0fc8ecb6", func := "gloaming/gloaminglaw13.InnerOwn", spec := "innerOwn", unfollowed := true, recurses := true, apart := false, narrowed := true }
def InnerOwnUptoSaid : Prop := innerOwnUptoRow.holds Try.pinned (OpenSpec.upto innerOwnSpec)

/-- 'gloaminglaw13.InnerSame', WHERE WHAT IT READS IS OF BULK AT MOST 1048576: true; the input reads as it did. -/
def innerSameUptoRow : OpenClaim := { program := "ytifbmapianddcaa", sum := "4088c0e490c6d430ccfb6a08f7f2427fba9dd658414338cc9c266f5a0fc8ecb6", func := "gloaming/gloaminglaw13.InnerSame", spec := "innerSame", unfollowed := true, recurses := true, apart := false, narrowed := true }
def InnerSameUptoSaid : Prop := innerSameUptoRow.holds Try.pinned (OpenSpec.upto innerSameSpec)

/-- 'gloaminglaw13.InnerVia', WHERE WHAT IT READS IS OF BULK AT MOST 1048576: true; the input reads as it did. -/
def innerViaUptoRow : OpenClaim := { program := "ytifbmapianddcaa", sum := "4088c0e490c6d430ccfb6a08f7f2427fba9dd658414338cc9c266f5a0fc8ecb6", func := "gloaming/gloaminglaw13.InnerVia", spec := "innerVia", unfollowed := true, recurses := true, apart := false, narrowed := true }
def InnerViaUptoSaid : Prop := innerViaUptoRow.holds Try.pinned (OpenSpec.upto innerViaSpec)

/-- 'gloaminglaw21.SessPlays', WHERE WHAT IT READS IS OF BULK AT MOST 1048576: true; the input reads as it did. -/
def sessPlaysUptoRow : OpenClaim := { program := "ytifbmapianddcaa", sum := "4088c0e490c6d430ccfb6a08f7f2427fba9dd658414338cc9c266f5a0fc8ecb6", func := "gloaming/gloaminglaw21.SessPlays", spec := "sessPlays", unfollowed := true, recurses := true, apart := false, narrowed := true }
def SessPlaysUptoSaid : Prop := sessPlaysUptoRow.holds Try.pinned (OpenSpec.upto sessPlaysSpec)

/-- 'gloaminglaw21.SessDraws', WHERE WHAT IT READS IS OF BULK AT MOST 1048576: true; the input reads as it did. -/
def sessDrawsUptoRow : OpenClaim := { program := "ytifbmapianddcaa", sum := "4088c0e490c6d430ccfb6a08f7f2427fba9dd658414338cc9c266f5a0fc8ecb6", func := "gloaming/gloaminglaw21.SessDraws", spec := "sessDraws", unfollowed := true, recurses := true, apart := false, narrowed := true }
def SessDrawsUptoSaid : Prop := sessDrawsUptoRow.holds Try.pinned (OpenSpec.upto sessDrawsSpec)

/-- 'gloaminglaw21.SessOwn', WHERE WHAT IT READS IS OF BULK AT MOST 1048576: true; the input reads as it did. -/
def sessOwnUptoRow : OpenClaim := { program := "ytifbmapianddcaa", sum := "4088c0e490c6d430ccfb6a08f7f2427fba9dd658414338cc9c266f5a0fc8ecb6", func := "gloaming/gloaminglaw21.SessOwn", spec := "sessOwn", inPlace := ["maps.clone"], unfollowed := true, recurses := true, apart := false, narrowed := true }
def SessOwnUptoSaid : Prop := sessOwnUptoRow.holds Try.pinned (OpenSpec.upto sessOwnSpec)

/-- 'gloaminglaw12.GateStays', WHERE WHAT IT READS IS OF BULK AT MOST 1048576: true; the input reads as it did. -/
def gateStaysUptoRow : OpenClaim := { program := "ytifbmapianddcaa", sum := "4088c0e490c6d430ccfb6a08f7f2427fba9dd658414338cc9c266f5a0fc8ecb6", func := "gloaming/gloaminglaw12.GateStays", spec := "gateStays", unfollowed := true, recurses := true, apart := false, narrowed := true }
def GateStaysUptoSaid : Prop := gateStaysUptoRow.holds Try.pinned (OpenSpec.upto gateStaysSpec)

/-- 'gloaminglaw12.GateCells', WHERE WHAT IT READS IS OF BULK AT MOST 1048576: true; the input reads as it did. -/
def gateCellsUptoRow : OpenClaim := { program := "ytifbmapianddcaa", sum := "4088c0e490c6d430ccfb6a08f7f2427fba9dd658414338cc9c266f5a0fc8ecb6", func := "gloaming/gloaminglaw12.GateCells", spec := "gateCells", unfollowed := true, recurses := true, apart := false, narrowed := true }
def GateCellsUptoSaid : Prop := gateCellsUptoRow.holds Try.pinned (OpenSpec.upto gateCellsSpec)

end Rows
end Go.Proofs.Ytifbmapianddcaa
