/-
  No cell of these rows narrows 'for every input' (looked for: loops, veiled, ifaces, maps, wideKeys, modest, calm, conditions, laid).
  DERIVED. THE GIVEN ROWS OF THIS SEAT. 7 by the template 'for every input the law returns true; each argument reads behind the call as it read before'; 0 by the template 'total and deterministic' (their statements: YtonjibjghijacaaTotals.lean).
  GIVEN WITH THE SEED: the statements are not yours to turn. If you find one false, say at which input.
  Laid BY PROGRAM, IN A SANDBOX (cutbox-rows.mjs): the forced cells as the released guide's own fill.sh prints them over the translation f1cdcad56e6afcf8… (all of the seat's roots in one cut). By AI agents, Wed Nov 11 2026. No macro, syntax, notation, axiom, sorry.
-/
import Derived.Test.YtonjibjghijacaaChecked
import GoSem.Claim
import GoSem.ClaimJoined
import GoSem.ClaimMapViews
import Derived.JoinedTies
import Derived.KernelRfl
namespace Go.Proofs.Ytonjibjghijacaa
/- THE CELL 'sum', in the pinned program and in every row, IS THE sha256 OF THE DUMP (.gsa) THAT YtonjibjghijacaaProg.lean LOADS. Nothing in Lean hashes anything: it is a label: what it is worth is what the hold of that sum in a sandbox is worth. -/
noncomputable def Try.pinned : Pinned := { name := "ytonjibjghijacaa", sum := "f1cdcad56e6afcf8c3a5a6b231269f1a9c3af401b4a77deb7495573b69475b53", checked := Try.checked }
namespace Rows
def none {H : Type} : Left H := { results := [], args := [] }

/-- 'tollhouselaw02.MoneyParts': WHATEVER THE INPUT: true; the input reads as it did. -/
def moneyPartsSpec : ChangeSpec := { name := "moneyParts", fn := fun _ => fun
  | [d1, d2, d3] => { results := [.lit (.bool true)], args := [d1, d2, d3] }
  | _ => none }
def moneyPartsRow : OpenClaim := { program := "ytonjibjghijacaa", sum := "f1cdcad56e6afcf8c3a5a6b231269f1a9c3af401b4a77deb7495573b69475b53", func := "tollhouse/tollhouselaw02.MoneyParts", spec := "moneyParts", inPlace := ["math/bits.Add64"], named := ["math/bits.divideError", "math/bits.overflowError"], apart := false }
def MoneyPartsSaid : Prop := moneyPartsRow.holds Try.pinned (OpenSpec.ofChange moneyPartsSpec)

/-- ITS FALSE NEIGHBOUR: 'it returns false'. Refute it at one input. -/
def moneyPartsWrong : ChangeSpec := { name := "moneyParts", fn := fun _ => fun
  | [d1, d2, d3] => { results := [.lit (.bool false)], args := [d1, d2, d3] }
  | _ => none }
def MoneyPartsWrongFalsely : Prop := moneyPartsRow.holds Try.pinned (OpenSpec.ofChange moneyPartsWrong)

/-- 'tollhouselaw02.MoneyRounds': WHATEVER THE INPUT: true; the input reads as it did. -/
def moneyRoundsSpec : ChangeSpec := { name := "moneyRounds", fn := fun _ => fun
  | [d1, d2, d3, d4] => { results := [.lit (.bool true)], args := [d1, d2, d3, d4] }
  | _ => none }
def moneyRoundsRow : OpenClaim := { program := "ytonjibjghijacaa", sum := "f1cdcad56e6afcf8c3a5a6b231269f1a9c3af401b4a77deb7495573b69475b53", func := "tollhouse/tollhouselaw02.MoneyRounds", spec := "moneyRounds", inPlace := ["math/bits.Add64"], named := ["math/bits.divideError", "math/bits.overflowError"], apart := false }
def MoneyRoundsSaid : Prop := moneyRoundsRow.holds Try.pinned (OpenSpec.ofChange moneyRoundsSpec)

/-- ITS FALSE NEIGHBOUR: 'it returns false'. Refute it at one input. -/
def moneyRoundsWrong : ChangeSpec := { name := "moneyRounds", fn := fun _ => fun
  | [d1, d2, d3, d4] => { results := [.lit (.bool false)], args := [d1, d2, d3, d4] }
  | _ => none }
def MoneyRoundsWrongFalsely : Prop := moneyRoundsRow.holds Try.pinned (OpenSpec.ofChange moneyRoundsWrong)

/-- 'tollhouselaw02.MoneyFees': WHATEVER THE INPUT: true; the input reads as it did. -/
def moneyFeesSpec : ChangeSpec := { name := "moneyFees", fn := fun _ => fun
  | [d1, d2] => { results := [.lit (.bool true)], args := [d1, d2] }
  | _ => none }
def moneyFeesRow : OpenClaim := { program := "ytonjibjghijacaa", sum := "f1cdcad56e6afcf8c3a5a6b231269f1a9c3af401b4a77deb7495573b69475b53", func := "tollhouse/tollhouselaw02.MoneyFees", spec := "moneyFees", inPlace := ["math/bits.Add64"], named := ["math/bits.divideError", "math/bits.overflowError"], apart := false }
def MoneyFeesSaid : Prop := moneyFeesRow.holds Try.pinned (OpenSpec.ofChange moneyFeesSpec)

/-- ITS FALSE NEIGHBOUR: 'it returns false'. Refute it at one input. -/
def moneyFeesWrong : ChangeSpec := { name := "moneyFees", fn := fun _ => fun
  | [d1, d2] => { results := [.lit (.bool false)], args := [d1, d2] }
  | _ => none }
def MoneyFeesWrongFalsely : Prop := moneyFeesRow.holds Try.pinned (OpenSpec.ofChange moneyFeesWrong)

/-- 'tollhouselaw02.MoneyPays': WHATEVER THE INPUT: true; the input reads as it did. -/
def moneyPaysSpec : ChangeSpec := { name := "moneyPays", fn := fun _ => fun
  | [d1, d2] => { results := [.lit (.bool true)], args := [d1, d2] }
  | _ => none }
def moneyPaysRow : OpenClaim := { program := "ytonjibjghijacaa", sum := "f1cdcad56e6afcf8c3a5a6b231269f1a9c3af401b4a77deb7495573b69475b53", func := "tollhouse/tollhouselaw02.MoneyPays", spec := "moneyPays", inPlace := ["math/bits.Add64"], named := ["math/bits.divideError", "math/bits.overflowError"], apart := false }
def MoneyPaysSaid : Prop := moneyPaysRow.holds Try.pinned (OpenSpec.ofChange moneyPaysSpec)

/-- ITS FALSE NEIGHBOUR: 'it returns false'. Refute it at one input. -/
def moneyPaysWrong : ChangeSpec := { name := "moneyPays", fn := fun _ => fun
  | [d1, d2] => { results := [.lit (.bool false)], args := [d1, d2] }
  | _ => none }
def MoneyPaysWrongFalsely : Prop := moneyPaysRow.holds Try.pinned (OpenSpec.ofChange moneyPaysWrong)

/-- 'tollhouselaw02.MoneyOrder': WHATEVER THE INPUT: true; the input reads as it did. -/
def moneyOrderSpec : ChangeSpec := { name := "moneyOrder", fn := fun _ => fun
  | [d1, d2, d3, d4, d5] => { results := [.lit (.bool true)], args := [d1, d2, d3, d4, d5] }
  | _ => none }
def moneyOrderRow : OpenClaim := { program := "ytonjibjghijacaa", sum := "f1cdcad56e6afcf8c3a5a6b231269f1a9c3af401b4a77deb7495573b69475b53", func := "tollhouse/tollhouselaw02.MoneyOrder", spec := "moneyOrder", inPlace := ["math/bits.Add64"], named := ["math/bits.divideError", "math/bits.overflowError"], apart := false }
def MoneyOrderSaid : Prop := moneyOrderRow.holds Try.pinned (OpenSpec.ofChange moneyOrderSpec)

/-- ITS FALSE NEIGHBOUR: 'it returns false'. Refute it at one input. -/
def moneyOrderWrong : ChangeSpec := { name := "moneyOrder", fn := fun _ => fun
  | [d1, d2, d3, d4, d5] => { results := [.lit (.bool false)], args := [d1, d2, d3, d4, d5] }
  | _ => none }
def MoneyOrderWrongFalsely : Prop := moneyOrderRow.holds Try.pinned (OpenSpec.ofChange moneyOrderWrong)

/-- 'tollhouselaw02.MoneySums': WHATEVER THE INPUT: true; the input reads as it did. -/
def moneySumsSpec : ChangeSpec := { name := "moneySums", fn := fun _ => fun
  | [d1, d2, d3] => { results := [.lit (.bool true)], args := [d1, d2, d3] }
  | _ => none }
def moneySumsRow : OpenClaim := { program := "ytonjibjghijacaa", sum := "f1cdcad56e6afcf8c3a5a6b231269f1a9c3af401b4a77deb7495573b69475b53", func := "tollhouse/tollhouselaw02.MoneySums", spec := "moneySums", inPlace := ["math/bits.Add64"], named := ["math/bits.divideError", "math/bits.overflowError"], apart := false }
def MoneySumsSaid : Prop := moneySumsRow.holds Try.pinned (OpenSpec.ofChange moneySumsSpec)

/-- ITS FALSE NEIGHBOUR: 'it returns false'. Refute it at one input. -/
def moneySumsWrong : ChangeSpec := { name := "moneySums", fn := fun _ => fun
  | [d1, d2, d3] => { results := [.lit (.bool false)], args := [d1, d2, d3] }
  | _ => none }
def MoneySumsWrongFalsely : Prop := moneySumsRow.holds Try.pinned (OpenSpec.ofChange moneySumsWrong)

/-- 'tollhouselaw02.MoneyShares': WHATEVER THE INPUT: true; the input reads as it did. -/
def moneySharesSpec : ChangeSpec := { name := "moneyShares", fn := fun _ => fun
  | [d1, d2] => { results := [.lit (.bool true)], args := [d1, d2] }
  | _ => none }
def moneySharesRow : OpenClaim := { program := "ytonjibjghijacaa", sum := "f1cdcad56e6afcf8c3a5a6b231269f1a9c3af401b4a77deb7495573b69475b53", func := "tollhouse/tollhouselaw02.MoneyShares", spec := "moneyShares", inPlace := ["math/bits.Add64"], named := ["math/bits.divideError", "math/bits.overflowError"], apart := false }
def MoneySharesSaid : Prop := moneySharesRow.holds Try.pinned (OpenSpec.ofChange moneySharesSpec)

/-- ITS FALSE NEIGHBOUR: 'it returns false'. Refute it at one input. -/
def moneySharesWrong : ChangeSpec := { name := "moneyShares", fn := fun _ => fun
  | [d1, d2] => { results := [.lit (.bool false)], args := [d1, d2] }
  | _ => none }
def MoneySharesWrongFalsely : Prop := moneySharesRow.holds Try.pinned (OpenSpec.ofChange moneySharesWrong)

/- THE SECOND FORM. 'bulk': how many values and letters a reading holds, each counted each time it is reached (what is shared counts as often as it is met; a slice's spare places count too). A statement '..UptoSaid' is the law's where the arguments, and the package variables that the reading takes, are together of bulk at most 1048576: NARROWER than '..Said'. Prove '..Said' where nothing that the law and all that it calls make is longer than what came in: it says more and counts as full. Else prove '..UptoSaid'. A law counts once. -/
mutual
def uptoBulk {H : Type} : DataW H → Nat
  | .lit (.string bytes) => bytes.length + 1
  | .lit _ => 1
  | .nil => 1
  | .ptr d => uptoBulk d + 1
  | .slice elems spare => uptoBulkAll elems + uptoBulkAll spare + 1
  | .agg parts => uptoBulkAll parts + 1
  | .iface _ d => uptoBulk d + 1
  | .map entries => uptoBulkEntries entries + 1
  | .held _ => 1
def uptoBulkAll {H : Type} : List (DataW H) → Nat
  | [] => 0
  | d :: r => uptoBulk d + uptoBulkAll r
def uptoBulkEntries {H : Type} : List (Lit × DataW H) → Nat
  | [] => 0
  | x :: r => uptoBulkEntry x + uptoBulkEntries r
def uptoBulkEntry {H : Type} : Lit × DataW H → Nat
  | (.string bytes, d) => bytes.length + uptoBulk d + 1
  | (_, d) => uptoBulk d + 1
 end
def uptoSmall : (H : Type) → List (DataW H) → Bool := fun _ ds => decide (uptoBulkAll ds ≤ 1048576)
def OpenSpec.upto (s : _root_.Go.ChangeSpec) : _root_.Go.OpenSpec := { _root_.Go.OpenSpec.ofChange s with cond := some uptoSmall }

/-- 'tollhouselaw02.MoneyParts', WHERE WHAT IT READS IS OF BULK AT MOST 1048576: true; the input reads as it did. -/
def moneyPartsUptoRow : OpenClaim := { program := "ytonjibjghijacaa", sum := "f1cdcad56e6afcf8c3a5a6b231269f1a9c3af401b4a77deb7495573b69475b53", func := "tollhouse/tollhouselaw02.MoneyParts", spec := "moneyParts", inPlace := ["math/bits.Add64"], named := ["math/bits.divideError", "math/bits.overflowError"], apart := false, narrowed := true }
def MoneyPartsUptoSaid : Prop := moneyPartsUptoRow.holds Try.pinned (OpenSpec.upto moneyPartsSpec)

/-- 'tollhouselaw02.MoneyRounds', WHERE WHAT IT READS IS OF BULK AT MOST 1048576: true; the input reads as it did. -/
def moneyRoundsUptoRow : OpenClaim := { program := "ytonjibjghijacaa", sum := "f1cdcad56e6afcf8c3a5a6b231269f1a9c3af401b4a77deb7495573b69475b53", func := "tollhouse/tollhouselaw02.MoneyRounds", spec := "moneyRounds", inPlace := ["math/bits.Add64"], named := ["math/bits.divideError", "math/bits.overflowError"], apart := false, narrowed := true }
def MoneyRoundsUptoSaid : Prop := moneyRoundsUptoRow.holds Try.pinned (OpenSpec.upto moneyRoundsSpec)

/-- 'tollhouselaw02.MoneyFees', WHERE WHAT IT READS IS OF BULK AT MOST 1048576: true; the input reads as it did. -/
def moneyFeesUptoRow : OpenClaim := { program := "ytonjibjghijacaa", sum := "f1cdcad56e6afcf8c3a5a6b231269f1a9c3af401b4a77deb7495573b69475b53", func := "tollhouse/tollhouselaw02.MoneyFees", spec := "moneyFees", inPlace := ["math/bits.Add64"], named := ["math/bits.divideError", "math/bits.overflowError"], apart := false, narrowed := true }
def MoneyFeesUptoSaid : Prop := moneyFeesUptoRow.holds Try.pinned (OpenSpec.upto moneyFeesSpec)

/-- 'tollhouselaw02.MoneyPays', WHERE WHAT IT READS IS OF BULK AT MOST 1048576: true; the input reads as it did. -/
def moneyPaysUptoRow : OpenClaim := { program := "ytonjibjghijacaa", sum := "f1cdcad56e6afcf8c3a5a6b231269f1a9c3af401b4a77deb7495573b69475b53", func := "tollhouse/tollhouselaw02.MoneyPays", spec := "moneyPays", inPlace := ["math/bits.Add64"], named := ["math/bits.divideError", "math/bits.overflowError"], apart := false, narrowed := true }
def MoneyPaysUptoSaid : Prop := moneyPaysUptoRow.holds Try.pinned (OpenSpec.upto moneyPaysSpec)

/-- 'tollhouselaw02.MoneyOrder', WHERE WHAT IT READS IS OF BULK AT MOST 1048576: true; the input reads as it did. -/
def moneyOrderUptoRow : OpenClaim := { program := "ytonjibjghijacaa", sum := "f1cdcad56e6afcf8c3a5a6b231269f1a9c3af401b4a77deb7495573b69475b53", func := "tollhouse/tollhouselaw02.MoneyOrder", spec := "moneyOrder", inPlace := ["math/bits.Add64"], named := ["math/bits.divideError", "math/bits.overflowError"], apart := false, narrowed := true }
def MoneyOrderUptoSaid : Prop := moneyOrderUptoRow.holds Try.pinned (OpenSpec.upto moneyOrderSpec)

/-- 'tollhouselaw02.MoneySums', WHERE WHAT IT READS IS OF BULK AT MOST 1048576: true; the input reads as it did. -/
def moneySumsUptoRow : OpenClaim := { program := "ytonjibjghijacaa", sum := "f1cdcad56e6afcf8c3a5a6b231269f1a9c3af401b4a77deb7495573b69475b53", func := "tollhouse/tollhouselaw02.MoneySums", spec := "moneySums", inPlace := ["math/bits.Add64"], named := ["math/bits.divideError", "math/bits.overflowError"], apart := false, narrowed := true }
def MoneySumsUptoSaid : Prop := moneySumsUptoRow.holds Try.pinned (OpenSpec.upto moneySumsSpec)

/-- 'tollhouselaw02.MoneyShares', WHERE WHAT IT READS IS OF BULK AT MOST 1048576: true; the input reads as it did. -/
def moneySharesUptoRow : OpenClaim := { program := "ytonjibjghijacaa", sum := "f1cdcad56e6afcf8c3a5a6b231269f1a9c3af401b4a77deb7495573b69475b53", func := "tollhouse/tollhouselaw02.MoneyShares", spec := "moneyShares", inPlace := ["math/bits.Add64"], named := ["math/bits.divideError", "math/bits.overflowError"], apart := false, narrowed := true }
def MoneySharesUptoSaid : Prop := moneySharesUptoRow.holds Try.pinned (OpenSpec.upto moneySharesSpec)

end Rows
end Go.Proofs.Ytonjibjghijacaa
