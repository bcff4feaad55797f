/-
  No cell of these rows narrows 'for every input' (looked for: loops, veiled, ifaces, maps, wideKeys, modest, calm, conditions, laid).
  DERIVED. THE GIVEN ROWS OF THIS SEAT. 11 by the template 'for every input the law returns true; each argument reads behind the call as it read before'; 0 by the template 'total and deterministic' (their statements: YtcfpbemoocegfaaTotals.lean).
  GIVEN WITH THE SEED: the statements are not yours to turn. If you find one false, say at which input.
  Laid BY PROGRAM, IN A SANDBOX (cutbox-rows.mjs): the forced cells as the released guide's own fill.sh prints them over the translation ca3b1e63ecb822da… (all of the seat's roots in one cut). By AI agents, Wed Nov 11 2026. No macro, syntax, notation, axiom, sorry.
-/
import Derived.Test.YtcfpbemoocegfaaChecked
import GoSem.Claim
import GoSem.ClaimJoined
import GoSem.ClaimMapViews
import Derived.JoinedTies
import Derived.KernelRfl
namespace Go.Proofs.Ytcfpbemoocegfaa
/- THE CELL 'sum', in the pinned program and in every row, IS THE sha256 OF THE DUMP (.gsa) THAT YtcfpbemoocegfaaProg.lean LOADS. Nothing in Lean hashes anything: it is a label: what it is worth is what the hold of that sum in a sandbox is worth. -/
noncomputable def Try.pinned : Pinned := { name := "ytcfpbemoocegfaa", sum := "ca3b1e63ecb822da119881cd8f96130699cd6ee2e7f709900f63a2ba583b0d7d", checked := Try.checked }
namespace Rows
def none {H : Type} : Left H := { results := [], args := [] }

/-- 'tollhouselaw08.PathAll': WHATEVER THE INPUT: true; the input reads as it did. -/
def pathAllSpec : ChangeSpec := { name := "pathAll", fn := fun _ => fun
  | [d1, d2, d3, d4] => { results := [.lit (.bool true)], args := [d1, d2, d3, d4] }
  | _ => none }
def pathAllRow : OpenClaim := { program := "ytcfpbemoocegfaa", sum := "ca3b1e63ecb822da119881cd8f96130699cd6ee2e7f709900f63a2ba583b0d7d", func := "tollhouse/tollhouselaw08.PathAll", spec := "pathAll", inPlace := ["math/bits.Add64"], unfollowed := true, recurses := true, named := ["math/bits.divideError", "math/bits.overflowError"], apart := false }
def PathAllSaid : Prop := pathAllRow.holds Try.pinned (OpenSpec.ofChange pathAllSpec)

/-- ITS FALSE NEIGHBOUR: 'it returns false'. Refute it at one input. -/
def pathAllWrong : ChangeSpec := { name := "pathAll", fn := fun _ => fun
  | [d1, d2, d3, d4] => { results := [.lit (.bool false)], args := [d1, d2, d3, d4] }
  | _ => none }
def PathAllWrongFalsely : Prop := pathAllRow.holds Try.pinned (OpenSpec.ofChange pathAllWrong)

/-- 'tollhouselaw08.PathSound': WHATEVER THE INPUT: true; the input reads as it did. -/
def pathSoundSpec : ChangeSpec := { name := "pathSound", fn := fun _ => fun
  | [d1, d2, d3, d4] => { results := [.lit (.bool true)], args := [d1, d2, d3, d4] }
  | _ => none }
def pathSoundRow : OpenClaim := { program := "ytcfpbemoocegfaa", sum := "ca3b1e63ecb822da119881cd8f96130699cd6ee2e7f709900f63a2ba583b0d7d", func := "tollhouse/tollhouselaw08.PathSound", spec := "pathSound", inPlace := ["math/bits.Add64"], unfollowed := true, recurses := true, named := ["math/bits.divideError", "math/bits.overflowError"], apart := false }
def PathSoundSaid : Prop := pathSoundRow.holds Try.pinned (OpenSpec.ofChange pathSoundSpec)

/-- ITS FALSE NEIGHBOUR: 'it returns false'. Refute it at one input. -/
def pathSoundWrong : ChangeSpec := { name := "pathSound", fn := fun _ => fun
  | [d1, d2, d3, d4] => { results := [.lit (.bool false)], args := [d1, d2, d3, d4] }
  | _ => none }
def PathSoundWrongFalsely : Prop := pathSoundRow.holds Try.pinned (OpenSpec.ofChange pathSoundWrong)

/-- 'tollhouselaw08.PathGoes': WHATEVER THE INPUT: true; the input reads as it did. -/
def pathGoesSpec : ChangeSpec := { name := "pathGoes", fn := fun _ => fun
  | [d1, d2] => { results := [.lit (.bool true)], args := [d1, d2] }
  | _ => none }
def pathGoesRow : OpenClaim := { program := "ytcfpbemoocegfaa", sum := "ca3b1e63ecb822da119881cd8f96130699cd6ee2e7f709900f63a2ba583b0d7d", func := "tollhouse/tollhouselaw08.PathGoes", spec := "pathGoes", inPlace := ["math/bits.Add64"], unfollowed := true, recurses := true, named := ["math/bits.divideError", "math/bits.overflowError"], apart := false }
def PathGoesSaid : Prop := pathGoesRow.holds Try.pinned (OpenSpec.ofChange pathGoesSpec)

/-- ITS FALSE NEIGHBOUR: 'it returns false'. Refute it at one input. -/
def pathGoesWrong : ChangeSpec := { name := "pathGoes", fn := fun _ => fun
  | [d1, d2] => { results := [.lit (.bool false)], args := [d1, d2] }
  | _ => none }
def PathGoesWrongFalsely : Prop := pathGoesRow.holds Try.pinned (OpenSpec.ofChange pathGoesWrong)

/-- 'tollhouselaw08.PathPays': WHATEVER THE INPUT: true; the input reads as it did. -/
def pathPaysSpec : ChangeSpec := { name := "pathPays", fn := fun _ => fun
  | [d1, d2, d3, d4] => { results := [.lit (.bool true)], args := [d1, d2, d3, d4] }
  | _ => none }
def pathPaysRow : OpenClaim := { program := "ytcfpbemoocegfaa", sum := "ca3b1e63ecb822da119881cd8f96130699cd6ee2e7f709900f63a2ba583b0d7d", func := "tollhouse/tollhouselaw08.PathPays", spec := "pathPays", inPlace := ["math/bits.Add64"], unfollowed := true, recurses := true, named := ["math/bits.divideError", "math/bits.overflowError"], apart := false }
def PathPaysSaid : Prop := pathPaysRow.holds Try.pinned (OpenSpec.ofChange pathPaysSpec)

/-- ITS FALSE NEIGHBOUR: 'it returns false'. Refute it at one input. -/
def pathPaysWrong : ChangeSpec := { name := "pathPays", fn := fun _ => fun
  | [d1, d2, d3, d4] => { results := [.lit (.bool false)], args := [d1, d2, d3, d4] }
  | _ => none }
def PathPaysWrongFalsely : Prop := pathPaysRow.holds Try.pinned (OpenSpec.ofChange pathPaysWrong)

/-- 'tollhouselaw08.PathGreedy': WHATEVER THE INPUT: true; the input reads as it did. -/
def pathGreedySpec : ChangeSpec := { name := "pathGreedy", fn := fun _ => fun
  | [d1, d2, d3, d4] => { results := [.lit (.bool true)], args := [d1, d2, d3, d4] }
  | _ => none }
def pathGreedyRow : OpenClaim := { program := "ytcfpbemoocegfaa", sum := "ca3b1e63ecb822da119881cd8f96130699cd6ee2e7f709900f63a2ba583b0d7d", func := "tollhouse/tollhouselaw08.PathGreedy", spec := "pathGreedy", inPlace := ["math/bits.Add64"], unfollowed := true, recurses := true, named := ["math/bits.divideError", "math/bits.overflowError"], apart := false }
def PathGreedySaid : Prop := pathGreedyRow.holds Try.pinned (OpenSpec.ofChange pathGreedySpec)

/-- ITS FALSE NEIGHBOUR: 'it returns false'. Refute it at one input. -/
def pathGreedyWrong : ChangeSpec := { name := "pathGreedy", fn := fun _ => fun
  | [d1, d2, d3, d4] => { results := [.lit (.bool false)], args := [d1, d2, d3, d4] }
  | _ => none }
def PathGreedyWrongFalsely : Prop := pathGreedyRow.holds Try.pinned (OpenSpec.ofChange pathGreedyWrong)

/-- 'tollhouselaw27.FlowMost': WHATEVER THE INPUT: true; the input reads as it did. -/
def flowMostSpec : ChangeSpec := { name := "flowMost", fn := fun _ => fun
  | [d1, d2, d3, d4] => { results := [.lit (.bool true)], args := [d1, d2, d3, d4] }
  | _ => none }
def flowMostRow : OpenClaim := { program := "ytcfpbemoocegfaa", sum := "ca3b1e63ecb822da119881cd8f96130699cd6ee2e7f709900f63a2ba583b0d7d", func := "tollhouse/tollhouselaw27.FlowMost", spec := "flowMost", inPlace := ["math/bits.Add64"], apart := false }
def FlowMostSaid : Prop := flowMostRow.holds Try.pinned (OpenSpec.ofChange flowMostSpec)

/-- ITS FALSE NEIGHBOUR: 'it returns false'. Refute it at one input. -/
def flowMostWrong : ChangeSpec := { name := "flowMost", fn := fun _ => fun
  | [d1, d2, d3, d4] => { results := [.lit (.bool false)], args := [d1, d2, d3, d4] }
  | _ => none }
def FlowMostWrongFalsely : Prop := flowMostRow.holds Try.pinned (OpenSpec.ofChange flowMostWrong)

/-- 'tollhouselaw27.FlowCuts': WHATEVER THE INPUT: true; the input reads as it did. -/
def flowCutsSpec : ChangeSpec := { name := "flowCuts", fn := fun _ => fun
  | [d1, d2, d3, d4] => { results := [.lit (.bool true)], args := [d1, d2, d3, d4] }
  | _ => none }
def flowCutsRow : OpenClaim := { program := "ytcfpbemoocegfaa", sum := "ca3b1e63ecb822da119881cd8f96130699cd6ee2e7f709900f63a2ba583b0d7d", func := "tollhouse/tollhouselaw27.FlowCuts", spec := "flowCuts", inPlace := ["math/bits.Add64"], apart := false }
def FlowCutsSaid : Prop := flowCutsRow.holds Try.pinned (OpenSpec.ofChange flowCutsSpec)

/-- ITS FALSE NEIGHBOUR: 'it returns false'. Refute it at one input. -/
def flowCutsWrong : ChangeSpec := { name := "flowCuts", fn := fun _ => fun
  | [d1, d2, d3, d4] => { results := [.lit (.bool false)], args := [d1, d2, d3, d4] }
  | _ => none }
def FlowCutsWrongFalsely : Prop := flowCutsRow.holds Try.pinned (OpenSpec.ofChange flowCutsWrong)

/-- 'tollhouselaw27.FlowGrows': WHATEVER THE INPUT: true; the input reads as it did. -/
def flowGrowsSpec : ChangeSpec := { name := "flowGrows", fn := fun _ => fun
  | [d1, d2, d3, d4, d5] => { results := [.lit (.bool true)], args := [d1, d2, d3, d4, d5] }
  | _ => none }
def flowGrowsRow : OpenClaim := { program := "ytcfpbemoocegfaa", sum := "ca3b1e63ecb822da119881cd8f96130699cd6ee2e7f709900f63a2ba583b0d7d", func := "tollhouse/tollhouselaw27.FlowGrows", spec := "flowGrows", inPlace := ["math/bits.Add64"], recurses := true, apart := false }
def FlowGrowsSaid : Prop := flowGrowsRow.holds Try.pinned (OpenSpec.ofChange flowGrowsSpec)

/-- ITS FALSE NEIGHBOUR: 'it returns false'. Refute it at one input. -/
def flowGrowsWrong : ChangeSpec := { name := "flowGrows", fn := fun _ => fun
  | [d1, d2, d3, d4, d5] => { results := [.lit (.bool false)], args := [d1, d2, d3, d4, d5] }
  | _ => none }
def FlowGrowsWrongFalsely : Prop := flowGrowsRow.holds Try.pinned (OpenSpec.ofChange flowGrowsWrong)

/-- 'tollhouselaw28.RebalanceCycles': WHATEVER THE INPUT: true; the input reads as it did. -/
def rebalanceCyclesSpec : ChangeSpec := { name := "rebalanceCycles", fn := fun _ => fun
  | [d1, d2, d3, d4, d5] => { results := [.lit (.bool true)], args := [d1, d2, d3, d4, d5] }
  | _ => none }
def rebalanceCyclesRow : OpenClaim := { program := "ytcfpbemoocegfaa", sum := "ca3b1e63ecb822da119881cd8f96130699cd6ee2e7f709900f63a2ba583b0d7d", func := "tollhouse/tollhouselaw28.RebalanceCycles", spec := "rebalanceCycles", inPlace := ["math/bits.Add64"], unfollowed := true, recurses := true, named := ["math/bits.divideError", "math/bits.overflowError"], apart := false }
def RebalanceCyclesSaid : Prop := rebalanceCyclesRow.holds Try.pinned (OpenSpec.ofChange rebalanceCyclesSpec)

/-- ITS FALSE NEIGHBOUR: 'it returns false'. Refute it at one input. -/
def rebalanceCyclesWrong : ChangeSpec := { name := "rebalanceCycles", fn := fun _ => fun
  | [d1, d2, d3, d4, d5] => { results := [.lit (.bool false)], args := [d1, d2, d3, d4, d5] }
  | _ => none }
def RebalanceCyclesWrongFalsely : Prop := rebalanceCyclesRow.holds Try.pinned (OpenSpec.ofChange rebalanceCyclesWrong)

/-- 'tollhouselaw28.RebalanceWorst': WHATEVER THE INPUT: true; the input reads as it did. -/
def rebalanceWorstSpec : ChangeSpec := { name := "rebalanceWorst", fn := fun _ => fun
  | [d1, d2] => { results := [.lit (.bool true)], args := [d1, d2] }
  | _ => none }
def rebalanceWorstRow : OpenClaim := { program := "ytcfpbemoocegfaa", sum := "ca3b1e63ecb822da119881cd8f96130699cd6ee2e7f709900f63a2ba583b0d7d", func := "tollhouse/tollhouselaw28.RebalanceWorst", spec := "rebalanceWorst", inPlace := ["math/bits.Add64"], unfollowed := true, recurses := true, named := ["math/bits.divideError", "math/bits.overflowError"], apart := false }
def RebalanceWorstSaid : Prop := rebalanceWorstRow.holds Try.pinned (OpenSpec.ofChange rebalanceWorstSpec)

/-- ITS FALSE NEIGHBOUR: 'it returns false'. Refute it at one input. -/
def rebalanceWorstWrong : ChangeSpec := { name := "rebalanceWorst", fn := fun _ => fun
  | [d1, d2] => { results := [.lit (.bool false)], args := [d1, d2] }
  | _ => none }
def RebalanceWorstWrongFalsely : Prop := rebalanceWorstRow.holds Try.pinned (OpenSpec.ofChange rebalanceWorstWrong)

/-- 'tollhouselaw28.RebalanceKeeps': WHATEVER THE INPUT: true; the input reads as it did. -/
def rebalanceKeepsSpec : ChangeSpec := { name := "rebalanceKeeps", fn := fun _ => fun
  | [d1, d2, d3, d4, d5] => { results := [.lit (.bool true)], args := [d1, d2, d3, d4, d5] }
  | _ => none }
def rebalanceKeepsRow : OpenClaim := { program := "ytcfpbemoocegfaa", sum := "ca3b1e63ecb822da119881cd8f96130699cd6ee2e7f709900f63a2ba583b0d7d", func := "tollhouse/tollhouselaw28.RebalanceKeeps", spec := "rebalanceKeeps", inPlace := ["math/bits.Add64"], unfollowed := true, recurses := true, named := ["math/bits.divideError", "math/bits.overflowError"], apart := false }
def RebalanceKeepsSaid : Prop := rebalanceKeepsRow.holds Try.pinned (OpenSpec.ofChange rebalanceKeepsSpec)

/-- ITS FALSE NEIGHBOUR: 'it returns false'. Refute it at one input. -/
def rebalanceKeepsWrong : ChangeSpec := { name := "rebalanceKeeps", fn := fun _ => fun
  | [d1, d2, d3, d4, d5] => { results := [.lit (.bool false)], args := [d1, d2, d3, d4, d5] }
  | _ => none }
def RebalanceKeepsWrongFalsely : Prop := rebalanceKeepsRow.holds Try.pinned (OpenSpec.ofChange rebalanceKeepsWrong)

/- THE SECOND FORM. 'bulk': how many values and letters a reading holds, each counted each time it is reached (what is shared counts as often as it is met; a slice's spare places count too). A statement '..UptoSaid' is the law's where the arguments, and the package variables that the reading takes, are together of bulk at most 1048576: NARROWER than '..Said'. Prove '..Said' where nothing that the law and all that it calls make is longer than what came in: it says more and counts as full. Else prove '..UptoSaid'. A law counts once. -/
mutual
def uptoBulk {H : Type} : DataW H → Nat
  | .lit (.string bytes) => bytes.length + 1
  | .lit _ => 1
  | .nil => 1
  | .ptr d => uptoBulk d + 1
  | .slice elems spare => uptoBulkAll elems + uptoBulkAll spare + 1
  | .agg parts => uptoBulkAll parts + 1
  | .iface _ d => uptoBulk d + 1
  | .map entries => uptoBulkEntries entries + 1
  | .held _ => 1
def uptoBulkAll {H : Type} : List (DataW H) → Nat
  | [] => 0
  | d :: r => uptoBulk d + uptoBulkAll r
def uptoBulkEntries {H : Type} : List (Lit × DataW H) → Nat
  | [] => 0
  | x :: r => uptoBulkEntry x + uptoBulkEntries r
def uptoBulkEntry {H : Type} : Lit × DataW H → Nat
  | (.string bytes, d) => bytes.length + uptoBulk d + 1
  | (_, d) => uptoBulk d + 1
 end
def uptoSmall : (H : Type) → List (DataW H) → Bool := fun _ ds => decide (uptoBulkAll ds ≤ 1048576)
def OpenSpec.upto (s : _root_.Go.ChangeSpec) : _root_.Go.OpenSpec := { _root_.Go.OpenSpec.ofChange s with cond := some uptoSmall }

/-- 'tollhouselaw08.PathAll', WHERE WHAT IT READS IS OF BULK AT MOST 1048576: true; the input reads as it did. -/
def pathAllUptoRow : OpenClaim := { program := "ytcfpbemoocegfaa", sum := "ca3b1e63ecb822da119881cd8f96130699cd6ee2e7f709900f63a2ba583b0d7d", func := "tollhouse/tollhouselaw08.PathAll", spec := "pathAll", inPlace := ["math/bits.Add64"], unfollowed := true, recurses := true, named := ["math/bits.divideError", "math/bits.overflowError"], apart := false, narrowed := true }
def PathAllUptoSaid : Prop := pathAllUptoRow.holds Try.pinned (OpenSpec.upto pathAllSpec)

/-- 'tollhouselaw08.PathSound', WHERE WHAT IT READS IS OF BULK AT MOST 1048576: true; the input reads as it did. -/
def pathSoundUptoRow : OpenClaim := { program := "ytcfpbemoocegfaa", sum := "ca3b1e63ecb822da119881cd8f96130699cd6ee2e7f709900f63a2ba583b0d7d", func := "tollhouse/tollhouselaw08.PathSound", spec := "pathSound", inPlace := ["math/bits.Add64"], unfollowed := true, recurses := true, named := ["math/bits.divideError", "math/bits.overflowError"], apart := false, narrowed := true }
def PathSoundUptoSaid : Prop := pathSoundUptoRow.holds Try.pinned (OpenSpec.upto pathSoundSpec)

/-- 'tollhouselaw08.PathGoes', WHERE WHAT IT READS IS OF BULK AT MOST 1048576: true; the input reads as it did. -/
def pathGoesUptoRow : OpenClaim := { program := "ytcfpbemoocegfaa", sum := "ca3b1e63ecb822da119881cd8f96130699cd6ee2e7f709900f63a2ba583b0d7d", func := "tollhouse/tollhouselaw08.PathGoes", spec := "pathGoes", inPlace := ["math/bits.Add64"], unfollowed := true, recurses := true, named := ["math/bits.divideError", "math/bits.overflowError"], apart := false, narrowed := true }
def PathGoesUptoSaid : Prop := pathGoesUptoRow.holds Try.pinned (OpenSpec.upto pathGoesSpec)

/-- 'tollhouselaw08.PathPays', WHERE WHAT IT READS IS OF BULK AT MOST 1048576: true; the input reads as it did. -/
def pathPaysUptoRow : OpenClaim := { program := "ytcfpbemoocegfaa", sum := "ca3b1e63ecb822da119881cd8f96130699cd6ee2e7f709900f63a2ba583b0d7d", func := "tollhouse/tollhouselaw08.PathPays", spec := "pathPays", inPlace := ["math/bits.Add64"], unfollowed := true, recurses := true, named := ["math/bits.divideError", "math/bits.overflowError"], apart := false, narrowed := true }
def PathPaysUptoSaid : Prop := pathPaysUptoRow.holds Try.pinned (OpenSpec.upto pathPaysSpec)

/-- 'tollhouselaw08.PathGreedy', WHERE WHAT IT READS IS OF BULK AT MOST 1048576: true; the input reads as it did. -/
def pathGreedyUptoRow : OpenClaim := { program := "ytcfpbemoocegfaa", sum := "ca3b1e63ecb822da119881cd8f96130699cd6ee2e7f709900f63a2ba583b0d7d", func := "tollhouse/tollhouselaw08.PathGreedy", spec := "pathGreedy", inPlace := ["math/bits.Add64"], unfollowed := true, recurses := true, named := ["math/bits.divideError", "math/bits.overflowError"], apart := false, narrowed := true }
def PathGreedyUptoSaid : Prop := pathGreedyUptoRow.holds Try.pinned (OpenSpec.upto pathGreedySpec)

/-- 'tollhouselaw27.FlowMost', WHERE WHAT IT READS IS OF BULK AT MOST 1048576: true; the input reads as it did. -/
def flowMostUptoRow : OpenClaim := { program := "ytcfpbemoocegfaa", sum := "ca3b1e63ecb822da119881cd8f96130699cd6ee2e7f709900f63a2ba583b0d7d", func := "tollhouse/tollhouselaw27.FlowMost", spec := "flowMost", inPlace := ["math/bits.Add64"], apart := false, narrowed := true }
def FlowMostUptoSaid : Prop := flowMostUptoRow.holds Try.pinned (OpenSpec.upto flowMostSpec)

/-- 'tollhouselaw27.FlowCuts', WHERE WHAT IT READS IS OF BULK AT MOST 1048576: true; the input reads as it did. -/
def flowCutsUptoRow : OpenClaim := { program := "ytcfpbemoocegfaa", sum := "ca3b1e63ecb822da119881cd8f96130699cd6ee2e7f709900f63a2ba583b0d7d", func := "tollhouse/tollhouselaw27.FlowCuts", spec := "flowCuts", inPlace := ["math/bits.Add64"], apart := false, narrowed := true }
def FlowCutsUptoSaid : Prop := flowCutsUptoRow.holds Try.pinned (OpenSpec.upto flowCutsSpec)

/-- 'tollhouselaw27.FlowGrows', WHERE WHAT IT READS IS OF BULK AT MOST 1048576: true; the input reads as it did. -/
def flowGrowsUptoRow : OpenClaim := { program := "ytcfpbemoocegfaa", sum := "ca3b1e63ecb822da119881cd8f96130699cd6ee2e7f709900f63a2ba583b0d7d", func := "tollhouse/tollhouselaw27.FlowGrows", spec := "flowGrows", inPlace := ["math/bits.Add64"], recurses := true, apart := false, narrowed := true }
def FlowGrowsUptoSaid : Prop := flowGrowsUptoRow.holds Try.pinned (OpenSpec.upto flowGrowsSpec)

/-- 'tollhouselaw28.RebalanceCycles', WHERE WHAT IT READS IS OF BULK AT MOST 1048576: true; the input reads as it did. -/
def rebalanceCyclesUptoRow : OpenClaim := { program := "ytcfpbemoocegfaa", sum := "ca3b1e63ecb822da119881cd8f96130699cd6ee2e7f709900f63a2ba583b0d7d", func := "tollhouse/tollhouselaw28.RebalanceCycles", spec := "rebalanceCycles", inPlace := ["math/bits.Add64"], unfollowed := true, recurses := true, named := ["math/bits.divideError", "math/bits.overflowError"], apart := false, narrowed := true }
def RebalanceCyclesUptoSaid : Prop := rebalanceCyclesUptoRow.holds Try.pinned (OpenSpec.upto rebalanceCyclesSpec)

/-- 'tollhouselaw28.RebalanceWorst', WHERE WHAT IT READS IS OF BULK AT MOST 1048576: true; the input reads as it did. -/
def rebalanceWorstUptoRow : OpenClaim := { program := "ytcfpbemoocegfaa", sum := "ca3b1e63ecb822da119881cd8f96130699cd6ee2e7f709900f63a2ba583b0d7d", func := "tollhouse/tollhouselaw28.RebalanceWorst", spec := "rebalanceWorst", inPlace := ["math/bits.Add64"], unfollowed := true, recurses := true, named := ["math/bits.divideError", "math/bits.overflowError"], apart := false, narrowed := true }
def RebalanceWorstUptoSaid : Prop := rebalanceWorstUptoRow.holds Try.pinned (OpenSpec.upto rebalanceWorstSpec)

/-- 'tollhouselaw28.RebalanceKeeps', WHERE WHAT IT READS IS OF BULK AT MOST 1048576: true; the input reads as it did. -/
def rebalanceKeepsUptoRow : OpenClaim := { program := "ytcfpbemoocegfaa", sum := "ca3b1e63ecb822da119881cd8f96130699cd6ee2e7f709900f63a2ba583b0d7d", func := "tollhouse/tollhouselaw28.RebalanceKeeps", spec := "rebalanceKeeps", inPlace := ["math/bits.Add64"], unfollowed := true, recurses := true, named := ["math/bits.divideError", "math/bits.overflowError"], apart := false, narrowed := true }
def RebalanceKeepsUptoSaid : Prop := rebalanceKeepsUptoRow.holds Try.pinned (OpenSpec.upto rebalanceKeepsSpec)

end Rows
end Go.Proofs.Ytcfpbemoocegfaa
