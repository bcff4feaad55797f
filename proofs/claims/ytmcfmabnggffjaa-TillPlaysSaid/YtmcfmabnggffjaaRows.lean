/-
  No cell of these rows narrows 'for every input' (looked for: loops, veiled, ifaces, maps, wideKeys, modest, calm, conditions, laid).
  DERIVED. THE GIVEN ROWS OF THIS SEAT. 4 by the template 'for every input the law returns true; each argument reads behind the call as it read before'; 0 by the template 'total and deterministic' (their statements: YtmcfmabnggffjaaTotals.lean).
  GIVEN WITH THE SEED: the statements are not yours to turn. If you find one false, say at which input.
  Laid BY PROGRAM, IN A SANDBOX (cutbox-rows.mjs): the forced cells as the released guide's own fill.sh prints them over the translation 343bb3ce1e252779… (all of the seat's roots in one cut). By AI agents, Wed Nov 11 2026. No macro, syntax, notation, axiom, sorry.
-/
import Derived.Test.YtmcfmabnggffjaaChecked
import GoSem.Claim
import GoSem.ClaimJoined
import GoSem.ClaimMapViews
import Derived.JoinedTies
import Derived.KernelRfl
namespace Go.Proofs.Ytmcfmabnggffjaa
/- THE CELL 'sum', in the pinned program and in every row, IS THE sha256 OF THE DUMP (.gsa) THAT YtmcfmabnggffjaaProg.lean LOADS. Nothing in Lean hashes anything: it is a label: what it is worth is what the hold of that sum in a sandbox is worth. -/
noncomputable def Try.pinned : Pinned := { name := "ytmcfmabnggffjaa", sum := "343bb3ce1e25277944af892b1e10fa409878259c71ae4e91a4e233b66befeb76", checked := Try.checked }
namespace Rows
def none {H : Type} : Left H := { results := [], args := [] }

/-- 'tollhouselaw09.TillBack': WHATEVER THE INPUT: true; the input reads as it did. -/
def tillBackSpec : ChangeSpec := { name := "tillBack", fn := fun _ => fun
  | [d1, d2, d3, d4] => { results := [.lit (.bool true)], args := [d1, d2, d3, d4] }
  | _ => none }
def tillBackRow : OpenClaim := { program := "ytmcfmabnggffjaa", sum := "343bb3ce1e25277944af892b1e10fa409878259c71ae4e91a4e233b66befeb76", func := "tollhouse/tollhouselaw09.TillBack", spec := "tillBack", inPlace := ["math/bits.Add64"], apart := false }
def TillBackSaid : Prop := tillBackRow.holds Try.pinned (OpenSpec.ofChange tillBackSpec)

/-- ITS FALSE NEIGHBOUR: 'it returns false'. Refute it at one input. -/
def tillBackWrong : ChangeSpec := { name := "tillBack", fn := fun _ => fun
  | [d1, d2, d3, d4] => { results := [.lit (.bool false)], args := [d1, d2, d3, d4] }
  | _ => none }
def TillBackWrongFalsely : Prop := tillBackRow.holds Try.pinned (OpenSpec.ofChange tillBackWrong)

/-- 'tollhouselaw09.TillOrders': WHATEVER THE INPUT: true; the input reads as it did. -/
def tillOrdersSpec : ChangeSpec := { name := "tillOrders", fn := fun _ => fun
  | [d1, d2, d3] => { results := [.lit (.bool true)], args := [d1, d2, d3] }
  | _ => none }
def tillOrdersRow : OpenClaim := { program := "ytmcfmabnggffjaa", sum := "343bb3ce1e25277944af892b1e10fa409878259c71ae4e91a4e233b66befeb76", func := "tollhouse/tollhouselaw09.TillOrders", spec := "tillOrders", inPlace := ["math/bits.Add64"], apart := false }
def TillOrdersSaid : Prop := tillOrdersRow.holds Try.pinned (OpenSpec.ofChange tillOrdersSpec)

/-- ITS FALSE NEIGHBOUR: 'it returns false'. Refute it at one input. -/
def tillOrdersWrong : ChangeSpec := { name := "tillOrders", fn := fun _ => fun
  | [d1, d2, d3] => { results := [.lit (.bool false)], args := [d1, d2, d3] }
  | _ => none }
def TillOrdersWrongFalsely : Prop := tillOrdersRow.holds Try.pinned (OpenSpec.ofChange tillOrdersWrong)

/-- 'tollhouselaw09.TillPlays': WHATEVER THE INPUT: true; the input reads as it did. -/
def tillPlaysSpec : ChangeSpec := { name := "tillPlays", fn := fun _ => fun
  | [d1, d2] => { results := [.lit (.bool true)], args := [d1, d2] }
  | _ => none }
def tillPlaysRow : OpenClaim := { program := "ytmcfmabnggffjaa", sum := "343bb3ce1e25277944af892b1e10fa409878259c71ae4e91a4e233b66befeb76", func := "tollhouse/tollhouselaw09.TillPlays", spec := "tillPlays", inPlace := ["math/bits.Add64"], apart := false }
def TillPlaysSaid : Prop := tillPlaysRow.holds Try.pinned (OpenSpec.ofChange tillPlaysSpec)

/-- ITS FALSE NEIGHBOUR: 'it returns false'. Refute it at one input. -/
def tillPlaysWrong : ChangeSpec := { name := "tillPlays", fn := fun _ => fun
  | [d1, d2] => { results := [.lit (.bool false)], args := [d1, d2] }
  | _ => none }
def TillPlaysWrongFalsely : Prop := tillPlaysRow.holds Try.pinned (OpenSpec.ofChange tillPlaysWrong)

/-- 'tollhouselaw09.TillNil': WHATEVER THE INPUT: true; the input reads as it did. -/
def tillNilSpec : ChangeSpec := { name := "tillNil", fn := fun _ => fun
  | [d1, d2] => { results := [.lit (.bool true)], args := [d1, d2] }
  | _ => none }
def tillNilRow : OpenClaim := { program := "ytmcfmabnggffjaa", sum := "343bb3ce1e25277944af892b1e10fa409878259c71ae4e91a4e233b66befeb76", func := "tollhouse/tollhouselaw09.TillNil", spec := "tillNil", inPlace := ["math/bits.Add64"], apart := false }
def TillNilSaid : Prop := tillNilRow.holds Try.pinned (OpenSpec.ofChange tillNilSpec)

/-- ITS FALSE NEIGHBOUR: 'it returns false'. Refute it at one input. -/
def tillNilWrong : ChangeSpec := { name := "tillNil", fn := fun _ => fun
  | [d1, d2] => { results := [.lit (.bool false)], args := [d1, d2] }
  | _ => none }
def TillNilWrongFalsely : Prop := tillNilRow.holds Try.pinned (OpenSpec.ofChange tillNilWrong)

/- THE SECOND FORM. 'bulk': how many values and letters a reading holds, each counted each time it is reached (what is shared counts as often as it is met; a slice's spare places count too). A statement '..UptoSaid' is the law's where the arguments, and the package variables that the reading takes, are together of bulk at most 1048576: NARROWER than '..Said'. Prove '..Said' where nothing that the law and all that it calls make is longer than what came in: it says more and counts as full. Else prove '..UptoSaid'. A law counts once. -/
mutual
def uptoBulk {H : Type} : DataW H → Nat
  | .lit (.string bytes) => bytes.length + 1
  | .lit _ => 1
  | .nil => 1
  | .ptr d => uptoBulk d + 1
  | .slice elems spare => uptoBulkAll elems + uptoBulkAll spare + 1
  | .agg parts => uptoBulkAll parts + 1
  | .iface _ d => uptoBulk d + 1
  | .map entries => uptoBulkEntries entries + 1
  | .held _ => 1
def uptoBulkAll {H : Type} : List (DataW H) → Nat
  | [] => 0
  | d :: r => uptoBulk d + uptoBulkAll r
def uptoBulkEntries {H : Type} : List (Lit × DataW H) → Nat
  | [] => 0
  | x :: r => uptoBulkEntry x + uptoBulkEntries r
def uptoBulkEntry {H : Type} : Lit × DataW H → Nat
  | (.string bytes, d) => bytes.length + uptoBulk d + 1
  | (_, d) => uptoBulk d + 1
 end
def uptoSmall : (H : Type) → List (DataW H) → Bool := fun _ ds => decide (uptoBulkAll ds ≤ 1048576)
def OpenSpec.upto (s : _root_.Go.ChangeSpec) : _root_.Go.OpenSpec := { _root_.Go.OpenSpec.ofChange s with cond := some uptoSmall }

/-- 'tollhouselaw09.TillBack', WHERE WHAT IT READS IS OF BULK AT MOST 1048576: true; the input reads as it did. -/
def tillBackUptoRow : OpenClaim := { program := "ytmcfmabnggffjaa", sum := "343bb3ce1e25277944af892b1e10fa409878259c71ae4e91a4e233b66befeb76", func := "tollhouse/tollhouselaw09.TillBack", spec := "tillBack", inPlace := ["math/bits.Add64"], apart := false, narrowed := true }
def TillBackUptoSaid : Prop := tillBackUptoRow.holds Try.pinned (OpenSpec.upto tillBackSpec)

/-- 'tollhouselaw09.TillOrders', WHERE WHAT IT READS IS OF BULK AT MOST 1048576: true; the input reads as it did. -/
def tillOrdersUptoRow : OpenClaim := { program := "ytmcfmabnggffjaa", sum := "343bb3ce1e25277944af892b1e10fa409878259c71ae4e91a4e233b66befeb76", func := "tollhouse/tollhouselaw09.TillOrders", spec := "tillOrders", inPlace := ["math/bits.Add64"], apart := false, narrowed := true }
def TillOrdersUptoSaid : Prop := tillOrdersUptoRow.holds Try.pinned (OpenSpec.upto tillOrdersSpec)

/-- 'tollhouselaw09.TillPlays', WHERE WHAT IT READS IS OF BULK AT MOST 1048576: true; the input reads as it did. -/
def tillPlaysUptoRow : OpenClaim := { program := "ytmcfmabnggffjaa", sum := "343bb3ce1e25277944af892b1e10fa409878259c71ae4e91a4e233b66befeb76", func := "tollhouse/tollhouselaw09.TillPlays", spec := "tillPlays", inPlace := ["math/bits.Add64"], apart := false, narrowed := true }
def TillPlaysUptoSaid : Prop := tillPlaysUptoRow.holds Try.pinned (OpenSpec.upto tillPlaysSpec)

/-- 'tollhouselaw09.TillNil', WHERE WHAT IT READS IS OF BULK AT MOST 1048576: true; the input reads as it did. -/
def tillNilUptoRow : OpenClaim := { program := "ytmcfmabnggffjaa", sum := "343bb3ce1e25277944af892b1e10fa409878259c71ae4e91a4e233b66befeb76", func := "tollhouse/tollhouselaw09.TillNil", spec := "tillNil", inPlace := ["math/bits.Add64"], apart := false, narrowed := true }
def TillNilUptoSaid : Prop := tillNilUptoRow.holds Try.pinned (OpenSpec.upto tillNilSpec)

end Rows
end Go.Proofs.Ytmcfmabnggffjaa
