/-
  No cell of these rows narrows 'for every input' (looked for: loops, veiled, ifaces, maps, wideKeys, modest, calm, conditions, laid).
  DERIVED. THE GIVEN ROWS OF THIS SEAT. 4 by the template 'for every input the law returns true; each argument reads behind the call as it read before'; 0 by the template 'total and deterministic' (their statements: YtecgpkjigbhneaaTotals.lean).
  GIVEN WITH THE SEED: the statements are not yours to turn. If you find one false, say at which input.
  Laid BY PROGRAM, IN A SANDBOX (cutbox-rows.mjs): the forced cells as the released guide's own fill.sh prints them over the translation 3f96d5f2477ced92… (all of the seat's roots in one cut). By AI agents, Wed Nov 11 2026. No macro, syntax, notation, axiom, sorry.
-/
import Derived.Test.YtecgpkjigbhneaaChecked
import GoSem.Claim
import GoSem.ClaimJoined
import GoSem.ClaimMapViews
import Derived.JoinedTies
import Derived.KernelRfl
namespace Go.Proofs.Ytecgpkjigbhneaa
/- THE CELL 'sum', in the pinned program and in every row, IS THE sha256 OF THE DUMP (.gsa) THAT YtecgpkjigbhneaaProg.lean LOADS. Nothing in Lean hashes anything: it is a label: what it is worth is what the hold of that sum in a sandbox is worth. -/
noncomputable def Try.pinned : Pinned := { name := "ytecgpkjigbhneaa", sum := "3f96d5f2477ced92b9022677fec3aefebc65b205d97d23465ffad9b30466613e", checked := Try.checked }
namespace Rows
def none {H : Type} : Left H := { results := [], args := [] }

/-- 'tollhouselaw24.IdealPays': WHATEVER THE INPUT: true; the input reads as it did. -/
def idealPaysSpec : ChangeSpec := { name := "idealPays", fn := fun _ => fun
  | [d1, d2, d3] => { results := [.lit (.bool true)], args := [d1, d2, d3] }
  | _ => none }
def idealPaysRow : OpenClaim := { program := "ytecgpkjigbhneaa", sum := "3f96d5f2477ced92b9022677fec3aefebc65b205d97d23465ffad9b30466613e", func := "tollhouse/tollhouselaw24.IdealPays", spec := "idealPays", inPlace := ["math/bits.Add64"], unfollowed := true, recurses := true, apart := false }
def IdealPaysSaid : Prop := idealPaysRow.holds Try.pinned (OpenSpec.ofChange idealPaysSpec)

/-- ITS FALSE NEIGHBOUR: 'it returns false'. Refute it at one input. -/
def idealPaysWrong : ChangeSpec := { name := "idealPays", fn := fun _ => fun
  | [d1, d2, d3] => { results := [.lit (.bool false)], args := [d1, d2, d3] }
  | _ => none }
def IdealPaysWrongFalsely : Prop := idealPaysRow.holds Try.pinned (OpenSpec.ofChange idealPaysWrong)

/-- 'tollhouselaw24.IdealBacks': WHATEVER THE INPUT: true; the input reads as it did. -/
def idealBacksSpec : ChangeSpec := { name := "idealBacks", fn := fun _ => fun
  | [d1, d2, d3] => { results := [.lit (.bool true)], args := [d1, d2, d3] }
  | _ => none }
def idealBacksRow : OpenClaim := { program := "ytecgpkjigbhneaa", sum := "3f96d5f2477ced92b9022677fec3aefebc65b205d97d23465ffad9b30466613e", func := "tollhouse/tollhouselaw24.IdealBacks", spec := "idealBacks", inPlace := ["math/bits.Add64"], apart := false }
def IdealBacksSaid : Prop := idealBacksRow.holds Try.pinned (OpenSpec.ofChange idealBacksSpec)

/-- ITS FALSE NEIGHBOUR: 'it returns false'. Refute it at one input. -/
def idealBacksWrong : ChangeSpec := { name := "idealBacks", fn := fun _ => fun
  | [d1, d2, d3] => { results := [.lit (.bool false)], args := [d1, d2, d3] }
  | _ => none }
def IdealBacksWrongFalsely : Prop := idealBacksRow.holds Try.pinned (OpenSpec.ofChange idealBacksWrong)

/-- 'tollhouselaw24.IdealPlays': WHATEVER THE INPUT: true; the input reads as it did. -/
def idealPlaysSpec : ChangeSpec := { name := "idealPlays", fn := fun _ => fun
  | [d1, d2] => { results := [.lit (.bool true)], args := [d1, d2] }
  | _ => none }
def idealPlaysRow : OpenClaim := { program := "ytecgpkjigbhneaa", sum := "3f96d5f2477ced92b9022677fec3aefebc65b205d97d23465ffad9b30466613e", func := "tollhouse/tollhouselaw24.IdealPlays", spec := "idealPlays", inPlace := ["math/bits.Add64"], apart := false }
def IdealPlaysSaid : Prop := idealPlaysRow.holds Try.pinned (OpenSpec.ofChange idealPlaysSpec)

/-- ITS FALSE NEIGHBOUR: 'it returns false'. Refute it at one input. -/
def idealPlaysWrong : ChangeSpec := { name := "idealPlays", fn := fun _ => fun
  | [d1, d2] => { results := [.lit (.bool false)], args := [d1, d2] }
  | _ => none }
def IdealPlaysWrongFalsely : Prop := idealPlaysRow.holds Try.pinned (OpenSpec.ofChange idealPlaysWrong)

/-- 'tollhouselaw24.IdealNil': WHATEVER THE INPUT: true; the input reads as it did. -/
def idealNilSpec : ChangeSpec := { name := "idealNil", fn := fun _ => fun
  | [d1, d2, d3] => { results := [.lit (.bool true)], args := [d1, d2, d3] }
  | _ => none }
def idealNilRow : OpenClaim := { program := "ytecgpkjigbhneaa", sum := "3f96d5f2477ced92b9022677fec3aefebc65b205d97d23465ffad9b30466613e", func := "tollhouse/tollhouselaw24.IdealNil", spec := "idealNil", inPlace := ["math/bits.Add64"], apart := false }
def IdealNilSaid : Prop := idealNilRow.holds Try.pinned (OpenSpec.ofChange idealNilSpec)

/-- ITS FALSE NEIGHBOUR: 'it returns false'. Refute it at one input. -/
def idealNilWrong : ChangeSpec := { name := "idealNil", fn := fun _ => fun
  | [d1, d2, d3] => { results := [.lit (.bool false)], args := [d1, d2, d3] }
  | _ => none }
def IdealNilWrongFalsely : Prop := idealNilRow.holds Try.pinned (OpenSpec.ofChange idealNilWrong)

/- THE SECOND FORM. 'bulk': how many values and letters a reading holds, each counted each time it is reached (what is shared counts as often as it is met; a slice's spare places count too). A statement '..UptoSaid' is the law's where the arguments, and the package variables that the reading takes, are together of bulk at most 1048576: NARROWER than '..Said'. Prove '..Said' where nothing that the law and all that it calls make is longer than what came in: it says more and counts as full. Else prove '..UptoSaid'. A law counts once. -/
mutual
def uptoBulk {H : Type} : DataW H → Nat
  | .lit (.string bytes) => bytes.length + 1
  | .lit _ => 1
  | .nil => 1
  | .ptr d => uptoBulk d + 1
  | .slice elems spare => uptoBulkAll elems + uptoBulkAll spare + 1
  | .agg parts => uptoBulkAll parts + 1
  | .iface _ d => uptoBulk d + 1
  | .map entries => uptoBulkEntries entries + 1
  | .held _ => 1
def uptoBulkAll {H : Type} : List (DataW H) → Nat
  | [] => 0
  | d :: r => uptoBulk d + uptoBulkAll r
def uptoBulkEntries {H : Type} : List (Lit × DataW H) → Nat
  | [] => 0
  | x :: r => uptoBulkEntry x + uptoBulkEntries r
def uptoBulkEntry {H : Type} : Lit × DataW H → Nat
  | (.string bytes, d) => bytes.length + uptoBulk d + 1
  | (_, d) => uptoBulk d + 1
 end
def uptoSmall : (H : Type) → List (DataW H) → Bool := fun _ ds => decide (uptoBulkAll ds ≤ 1048576)
def OpenSpec.upto (s : _root_.Go.ChangeSpec) : _root_.Go.OpenSpec := { _root_.Go.OpenSpec.ofChange s with cond := some uptoSmall }

/-- 'tollhouselaw24.IdealPays', WHERE WHAT IT READS IS OF BULK AT MOST 1048576: true; the input reads as it did. -/
def idealPaysUptoRow : OpenClaim := { program := "ytecgpkjigbhneaa", sum := "3f96d5f2477ced92b9022677fec3aefebc65b205d97d23465ffad9b30466613e", func := "tollhouse/tollhouselaw24.IdealPays", spec := "idealPays", inPlace := ["math/bits.Add64"], unfollowed := true, recurses := true, apart := false, narrowed := true }
def IdealPaysUptoSaid : Prop := idealPaysUptoRow.holds Try.pinned (OpenSpec.upto idealPaysSpec)

/-- 'tollhouselaw24.IdealBacks', WHERE WHAT IT READS IS OF BULK AT MOST 1048576: true; the input reads as it did. -/
def idealBacksUptoRow : OpenClaim := { program := "ytecgpkjigbhneaa", sum := "3f96d5f2477ced92b9022677fec3aefebc65b205d97d23465ffad9b30466613e", func := "tollhouse/tollhouselaw24.IdealBacks", spec := "idealBacks", inPlace := ["math/bits.Add64"], apart := false, narrowed := true }
def IdealBacksUptoSaid : Prop := idealBacksUptoRow.holds Try.pinned (OpenSpec.upto idealBacksSpec)

/-- 'tollhouselaw24.IdealPlays', WHERE WHAT IT READS IS OF BULK AT MOST 1048576: true; the input reads as it did. -/
def idealPlaysUptoRow : OpenClaim := { program := "ytecgpkjigbhneaa", sum := "3f96d5f2477ced92b9022677fec3aefebc65b205d97d23465ffad9b30466613e", func := "tollhouse/tollhouselaw24.IdealPlays", spec := "idealPlays", inPlace := ["math/bits.Add64"], apart := false, narrowed := true }
def IdealPlaysUptoSaid : Prop := idealPlaysUptoRow.holds Try.pinned (OpenSpec.upto idealPlaysSpec)

/-- 'tollhouselaw24.IdealNil', WHERE WHAT IT READS IS OF BULK AT MOST 1048576: true; the input reads as it did. -/
def idealNilUptoRow : OpenClaim := { program := "ytecgpkjigbhneaa", sum := "3f96d5f2477ced92b9022677fec3aefebc65b205d97d23465ffad9b30466613e", func := "tollhouse/tollhouselaw24.IdealNil", spec := "idealNil", inPlace := ["math/bits.Add64"], apart := false, narrowed := true }
def IdealNilUptoSaid : Prop := idealNilUptoRow.holds Try.pinned (OpenSpec.upto idealNilSpec)

end Rows
end Go.Proofs.Ytecgpkjigbhneaa
