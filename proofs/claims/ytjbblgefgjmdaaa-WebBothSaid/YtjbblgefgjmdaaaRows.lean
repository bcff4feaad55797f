/-
  No cell of these rows narrows 'for every input' (looked for: loops, veiled, ifaces, maps, wideKeys, modest, calm, conditions, laid).
  DERIVED. THE GIVEN ROWS OF THIS SEAT. 4 by the template 'for every input the law returns true; each argument reads behind the call as it read before'; 0 by the template 'total and deterministic' (their statements: YtjbblgefgjmdaaaTotals.lean).
  GIVEN WITH THE SEED: the statements are not yours to turn. If you find one false, say at which input.
  Laid BY PROGRAM, IN A SANDBOX (cutbox-rows.mjs): the forced cells as the released guide's own fill.sh prints them over the translation 5898cafd6e4dc6e3… (all of the seat's roots in one cut). By AI agents, Wed Nov 11 2026. No macro, syntax, notation, axiom, sorry.
-/
import Derived.Test.YtjbblgefgjmdaaaChecked
import GoSem.Claim
import GoSem.ClaimJoined
import GoSem.ClaimMapViews
import Derived.JoinedTies
import Derived.KernelRfl
namespace Go.Proofs.Ytjbblgefgjmdaaa
/- THE CELL 'sum', in the pinned program and in every row, IS THE sha256 OF THE DUMP (.gsa) THAT YtjbblgefgjmdaaaProg.lean LOADS. Nothing in Lean hashes anything: it is a label: what it is worth is what the hold of that sum in a sandbox is worth. -/
noncomputable def Try.pinned : Pinned := { name := "ytjbblgefgjmdaaa", sum := "5898cafd6e4dc6e3196f0ee194294bfc39f8081174a36553d126054fdb7bbc85", checked := Try.checked }
namespace Rows
def none {H : Type} : Left H := { results := [], args := [] }

/-- 'tollhouselaw07.WebSteps': WHATEVER THE INPUT: true; the input reads as it did. -/
def webStepsSpec : ChangeSpec := { name := "webSteps", fn := fun _ => fun
  | [d1, d2] => { results := [.lit (.bool true)], args := [d1, d2] }
  | _ => none }
def webStepsRow : OpenClaim := { program := "ytjbblgefgjmdaaa", sum := "5898cafd6e4dc6e3196f0ee194294bfc39f8081174a36553d126054fdb7bbc85", func := "tollhouse/tollhouselaw07.WebSteps", spec := "webSteps", inPlace := ["math/bits.Add64"], apart := false }
def WebStepsSaid : Prop := webStepsRow.holds Try.pinned (OpenSpec.ofChange webStepsSpec)

/-- ITS FALSE NEIGHBOUR: 'it returns false'. Refute it at one input. -/
def webStepsWrong : ChangeSpec := { name := "webSteps", fn := fun _ => fun
  | [d1, d2] => { results := [.lit (.bool false)], args := [d1, d2] }
  | _ => none }
def WebStepsWrongFalsely : Prop := webStepsRow.holds Try.pinned (OpenSpec.ofChange webStepsWrong)

/-- 'tollhouselaw07.WebSends': WHATEVER THE INPUT: true; the input reads as it did. -/
def webSendsSpec : ChangeSpec := { name := "webSends", fn := fun _ => fun
  | [d1, d2, d3, d4] => { results := [.lit (.bool true)], args := [d1, d2, d3, d4] }
  | _ => none }
def webSendsRow : OpenClaim := { program := "ytjbblgefgjmdaaa", sum := "5898cafd6e4dc6e3196f0ee194294bfc39f8081174a36553d126054fdb7bbc85", func := "tollhouse/tollhouselaw07.WebSends", spec := "webSends", inPlace := ["math/bits.Add64"], apart := false }
def WebSendsSaid : Prop := webSendsRow.holds Try.pinned (OpenSpec.ofChange webSendsSpec)

/-- ITS FALSE NEIGHBOUR: 'it returns false'. Refute it at one input. -/
def webSendsWrong : ChangeSpec := { name := "webSends", fn := fun _ => fun
  | [d1, d2, d3, d4] => { results := [.lit (.bool false)], args := [d1, d2, d3, d4] }
  | _ => none }
def WebSendsWrongFalsely : Prop := webSendsRow.holds Try.pinned (OpenSpec.ofChange webSendsWrong)

/-- 'tollhouselaw07.WebBoth': WHATEVER THE INPUT: true; the input reads as it did. -/
def webBothSpec : ChangeSpec := { name := "webBoth", fn := fun _ => fun
  | [d1, d2, d3, d4] => { results := [.lit (.bool true)], args := [d1, d2, d3, d4] }
  | _ => none }
def webBothRow : OpenClaim := { program := "ytjbblgefgjmdaaa", sum := "5898cafd6e4dc6e3196f0ee194294bfc39f8081174a36553d126054fdb7bbc85", func := "tollhouse/tollhouselaw07.WebBoth", spec := "webBoth", inPlace := ["math/bits.Add64"], recurses := true, apart := false }
def WebBothSaid : Prop := webBothRow.holds Try.pinned (OpenSpec.ofChange webBothSpec)

/-- ITS FALSE NEIGHBOUR: 'it returns false'. Refute it at one input. -/
def webBothWrong : ChangeSpec := { name := "webBoth", fn := fun _ => fun
  | [d1, d2, d3, d4] => { results := [.lit (.bool false)], args := [d1, d2, d3, d4] }
  | _ => none }
def WebBothWrongFalsely : Prop := webBothRow.holds Try.pinned (OpenSpec.ofChange webBothWrong)

/-- 'tollhouselaw07.WebReach': WHATEVER THE INPUT: true; the input reads as it did. -/
def webReachSpec : ChangeSpec := { name := "webReach", fn := fun _ => fun
  | [d1, d2, d3, d4] => { results := [.lit (.bool true)], args := [d1, d2, d3, d4] }
  | _ => none }
def webReachRow : OpenClaim := { program := "ytjbblgefgjmdaaa", sum := "5898cafd6e4dc6e3196f0ee194294bfc39f8081174a36553d126054fdb7bbc85", func := "tollhouse/tollhouselaw07.WebReach", spec := "webReach", inPlace := ["math/bits.Add64"], recurses := true, apart := false }
def WebReachSaid : Prop := webReachRow.holds Try.pinned (OpenSpec.ofChange webReachSpec)

/-- ITS FALSE NEIGHBOUR: 'it returns false'. Refute it at one input. -/
def webReachWrong : ChangeSpec := { name := "webReach", fn := fun _ => fun
  | [d1, d2, d3, d4] => { results := [.lit (.bool false)], args := [d1, d2, d3, d4] }
  | _ => none }
def WebReachWrongFalsely : Prop := webReachRow.holds Try.pinned (OpenSpec.ofChange webReachWrong)

/- THE SECOND FORM. 'bulk': how many values and letters a reading holds, each counted each time it is reached (what is shared counts as often as it is met; a slice's spare places count too). A statement '..UptoSaid' is the law's where the arguments, and the package variables that the reading takes, are together of bulk at most 1048576: NARROWER than '..Said'. Prove '..Said' where nothing that the law and all that it calls make is longer than what came in: it says more and counts as full. Else prove '..UptoSaid'. A law counts once. -/
mutual
def uptoBulk {H : Type} : DataW H → Nat
  | .lit (.string bytes) => bytes.length + 1
  | .lit _ => 1
  | .nil => 1
  | .ptr d => uptoBulk d + 1
  | .slice elems spare => uptoBulkAll elems + uptoBulkAll spare + 1
  | .agg parts => uptoBulkAll parts + 1
  | .iface _ d => uptoBulk d + 1
  | .map entries => uptoBulkEntries entries + 1
  | .held _ => 1
def uptoBulkAll {H : Type} : List (DataW H) → Nat
  | [] => 0
  | d :: r => uptoBulk d + uptoBulkAll r
def uptoBulkEntries {H : Type} : List (Lit × DataW H) → Nat
  | [] => 0
  | x :: r => uptoBulkEntry x + uptoBulkEntries r
def uptoBulkEntry {H : Type} : Lit × DataW H → Nat
  | (.string bytes, d) => bytes.length + uptoBulk d + 1
  | (_, d) => uptoBulk d + 1
 end
def uptoSmall : (H : Type) → List (DataW H) → Bool := fun _ ds => decide (uptoBulkAll ds ≤ 1048576)
def OpenSpec.upto (s : _root_.Go.ChangeSpec) : _root_.Go.OpenSpec := { _root_.Go.OpenSpec.ofChange s with cond := some uptoSmall }

/-- 'tollhouselaw07.WebSteps', WHERE WHAT IT READS IS OF BULK AT MOST 1048576: true; the input reads as it did. -/
def webStepsUptoRow : OpenClaim := { program := "ytjbblgefgjmdaaa", sum := "5898cafd6e4dc6e3196f0ee194294bfc39f8081174a36553d126054fdb7bbc85", func := "tollhouse/tollhouselaw07.WebSteps", spec := "webSteps", inPlace := ["math/bits.Add64"], apart := false, narrowed := true }
def WebStepsUptoSaid : Prop := webStepsUptoRow.holds Try.pinned (OpenSpec.upto webStepsSpec)

/-- 'tollhouselaw07.WebSends', WHERE WHAT IT READS IS OF BULK AT MOST 1048576: true; the input reads as it did. -/
def webSendsUptoRow : OpenClaim := { program := "ytjbblgefgjmdaaa", sum := "5898cafd6e4dc6e3196f0ee194294bfc39f8081174a36553d126054fdb7bbc85", func := "tollhouse/tollhouselaw07.WebSends", spec := "webSends", inPlace := ["math/bits.Add64"], apart := false, narrowed := true }
def WebSendsUptoSaid : Prop := webSendsUptoRow.holds Try.pinned (OpenSpec.upto webSendsSpec)

/-- 'tollhouselaw07.WebBoth', WHERE WHAT IT READS IS OF BULK AT MOST 1048576: true; the input reads as it did. -/
def webBothUptoRow : OpenClaim := { program := "ytjbblgefgjmdaaa", sum := "5898cafd6e4dc6e3196f0ee194294bfc39f8081174a36553d126054fdb7bbc85", func := "tollhouse/tollhouselaw07.WebBoth", spec := "webBoth", inPlace := ["math/bits.Add64"], recurses := true, apart := false, narrowed := true }
def WebBothUptoSaid : Prop := webBothUptoRow.holds Try.pinned (OpenSpec.upto webBothSpec)

/-- 'tollhouselaw07.WebReach', WHERE WHAT IT READS IS OF BULK AT MOST 1048576: true; the input reads as it did. -/
def webReachUptoRow : OpenClaim := { program := "ytjbblgefgjmdaaa", sum := "5898cafd6e4dc6e3196f0ee194294bfc39f8081174a36553d126054fdb7bbc85", func := "tollhouse/tollhouselaw07.WebReach", spec := "webReach", inPlace := ["math/bits.Add64"], recurses := true, apart := false, narrowed := true }
def WebReachUptoSaid : Prop := webReachUptoRow.holds Try.pinned (OpenSpec.upto webReachSpec)

end Rows
end Go.Proofs.Ytjbblgefgjmdaaa
