/-
  No cell of these rows narrows 'for every input' (looked for: loops, veiled, ifaces, maps, wideKeys, modest, calm, conditions, laid).
  DERIVED. THE GIVEN ROWS OF THIS SEAT. 6 by the template 'for every input the law returns true; each argument reads behind the call as it read before'; 0 by the template 'total and deterministic' (their statements: YtpmjigghboifdaaTotals.lean).
  GIVEN WITH THE SEED: the statements are not yours to turn. If you find one false, say at which input.
  Laid BY PROGRAM, IN A SANDBOX (cutbox-rows.mjs): the forced cells as the released guide's own fill.sh prints them over the translation 1503014df2668ce2… (all of the seat's roots in one cut). By AI agents, Wed Nov 11 2026. No macro, syntax, notation, axiom, sorry.
-/
import Derived.Test.YtpmjigghboifdaaChecked
import GoSem.Claim
import GoSem.ClaimJoined
import GoSem.ClaimMapViews
import Derived.JoinedTies
import Derived.KernelRfl
namespace Go.Proofs.Ytpmjigghboifdaa
/- THE CELL 'sum', in the pinned program and in every row, IS THE sha256 OF THE DUMP (.gsa) THAT YtpmjigghboifdaaProg.lean LOADS. Nothing in Lean hashes anything: it is a label: what it is worth is what the hold of that sum in a sandbox is worth. -/
noncomputable def Try.pinned : Pinned := { name := "ytpmjigghboifdaa", sum := "1503014df2668ce252531b0e45e0cd2368226d056784bbaa731875fa091de74a", checked := Try.checked }
namespace Rows
def none {H : Type} : Left H := { results := [], args := [] }

/-- 'tollhouselaw06.ChartSpirals': WHATEVER THE INPUT: true; the input reads as it did. -/
def chartSpiralsSpec : ChangeSpec := { name := "chartSpirals", fn := fun _ => fun
  | [d1, d2] => { results := [.lit (.bool true)], args := [d1, d2] }
  | _ => none }
def chartSpiralsRow : OpenClaim := { program := "ytpmjigghboifdaa", sum := "1503014df2668ce252531b0e45e0cd2368226d056784bbaa731875fa091de74a", func := "tollhouse/tollhouselaw06.ChartSpirals", spec := "chartSpirals", apart := false }
def ChartSpiralsSaid : Prop := chartSpiralsRow.holds Try.pinned (OpenSpec.ofChange chartSpiralsSpec)

/-- ITS FALSE NEIGHBOUR: 'it returns false'. Refute it at one input. -/
def chartSpiralsWrong : ChangeSpec := { name := "chartSpirals", fn := fun _ => fun
  | [d1, d2] => { results := [.lit (.bool false)], args := [d1, d2] }
  | _ => none }
def ChartSpiralsWrongFalsely : Prop := chartSpiralsRow.holds Try.pinned (OpenSpec.ofChange chartSpiralsWrong)

/-- 'tollhouselaw06.ChartReckons': WHATEVER THE INPUT: true; the input reads as it did. -/
def chartReckonsSpec : ChangeSpec := { name := "chartReckons", fn := fun _ => fun
  | [d1, d2, d3] => { results := [.lit (.bool true)], args := [d1, d2, d3] }
  | _ => none }
def chartReckonsRow : OpenClaim := { program := "ytpmjigghboifdaa", sum := "1503014df2668ce252531b0e45e0cd2368226d056784bbaa731875fa091de74a", func := "tollhouse/tollhouselaw06.ChartReckons", spec := "chartReckons", apart := false }
def ChartReckonsSaid : Prop := chartReckonsRow.holds Try.pinned (OpenSpec.ofChange chartReckonsSpec)

/-- ITS FALSE NEIGHBOUR: 'it returns false'. Refute it at one input. -/
def chartReckonsWrong : ChangeSpec := { name := "chartReckons", fn := fun _ => fun
  | [d1, d2, d3] => { results := [.lit (.bool false)], args := [d1, d2, d3] }
  | _ => none }
def ChartReckonsWrongFalsely : Prop := chartReckonsRow.holds Try.pinned (OpenSpec.ofChange chartReckonsWrong)

/-- 'tollhouselaw06.ChartBack': WHATEVER THE INPUT: true; the input reads as it did. -/
def chartBackSpec : ChangeSpec := { name := "chartBack", fn := fun _ => fun
  | [d1, d2] => { results := [.lit (.bool true)], args := [d1, d2] }
  | _ => none }
def chartBackRow : OpenClaim := { program := "ytpmjigghboifdaa", sum := "1503014df2668ce252531b0e45e0cd2368226d056784bbaa731875fa091de74a", func := "tollhouse/tollhouselaw06.ChartBack", spec := "chartBack", apart := false }
def ChartBackSaid : Prop := chartBackRow.holds Try.pinned (OpenSpec.ofChange chartBackSpec)

/-- ITS FALSE NEIGHBOUR: 'it returns false'. Refute it at one input. -/
def chartBackWrong : ChangeSpec := { name := "chartBack", fn := fun _ => fun
  | [d1, d2] => { results := [.lit (.bool false)], args := [d1, d2] }
  | _ => none }
def ChartBackWrongFalsely : Prop := chartBackRow.holds Try.pinned (OpenSpec.ofChange chartBackWrong)

/-- 'tollhouselaw06.ChartTurns': WHATEVER THE INPUT: true; the input reads as it did. -/
def chartTurnsSpec : ChangeSpec := { name := "chartTurns", fn := fun _ => fun
  | [d1, d2, d3, d4] => { results := [.lit (.bool true)], args := [d1, d2, d3, d4] }
  | _ => none }
def chartTurnsRow : OpenClaim := { program := "ytpmjigghboifdaa", sum := "1503014df2668ce252531b0e45e0cd2368226d056784bbaa731875fa091de74a", func := "tollhouse/tollhouselaw06.ChartTurns", spec := "chartTurns", apart := false }
def ChartTurnsSaid : Prop := chartTurnsRow.holds Try.pinned (OpenSpec.ofChange chartTurnsSpec)

/-- ITS FALSE NEIGHBOUR: 'it returns false'. Refute it at one input. -/
def chartTurnsWrong : ChangeSpec := { name := "chartTurns", fn := fun _ => fun
  | [d1, d2, d3, d4] => { results := [.lit (.bool false)], args := [d1, d2, d3, d4] }
  | _ => none }
def ChartTurnsWrongFalsely : Prop := chartTurnsRow.holds Try.pinned (OpenSpec.ofChange chartTurnsWrong)

/-- 'tollhouselaw06.ChartLooks': WHATEVER THE INPUT: true; the input reads as it did. -/
def chartLooksSpec : ChangeSpec := { name := "chartLooks", fn := fun _ => fun
  | [d1, d2, d3, d4] => { results := [.lit (.bool true)], args := [d1, d2, d3, d4] }
  | _ => none }
def chartLooksRow : OpenClaim := { program := "ytpmjigghboifdaa", sum := "1503014df2668ce252531b0e45e0cd2368226d056784bbaa731875fa091de74a", func := "tollhouse/tollhouselaw06.ChartLooks", spec := "chartLooks", apart := false }
def ChartLooksSaid : Prop := chartLooksRow.holds Try.pinned (OpenSpec.ofChange chartLooksSpec)

/-- ITS FALSE NEIGHBOUR: 'it returns false'. Refute it at one input. -/
def chartLooksWrong : ChangeSpec := { name := "chartLooks", fn := fun _ => fun
  | [d1, d2, d3, d4] => { results := [.lit (.bool false)], args := [d1, d2, d3, d4] }
  | _ => none }
def ChartLooksWrongFalsely : Prop := chartLooksRow.holds Try.pinned (OpenSpec.ofChange chartLooksWrong)

/-- 'tollhouselaw06.ChartNear': WHATEVER THE INPUT: true; the input reads as it did. -/
def chartNearSpec : ChangeSpec := { name := "chartNear", fn := fun _ => fun
  | [d1, d2, d3, d4] => { results := [.lit (.bool true)], args := [d1, d2, d3, d4] }
  | _ => none }
def chartNearRow : OpenClaim := { program := "ytpmjigghboifdaa", sum := "1503014df2668ce252531b0e45e0cd2368226d056784bbaa731875fa091de74a", func := "tollhouse/tollhouselaw06.ChartNear", spec := "chartNear", apart := false }
def ChartNearSaid : Prop := chartNearRow.holds Try.pinned (OpenSpec.ofChange chartNearSpec)

/-- ITS FALSE NEIGHBOUR: 'it returns false'. Refute it at one input. -/
def chartNearWrong : ChangeSpec := { name := "chartNear", fn := fun _ => fun
  | [d1, d2, d3, d4] => { results := [.lit (.bool false)], args := [d1, d2, d3, d4] }
  | _ => none }
def ChartNearWrongFalsely : Prop := chartNearRow.holds Try.pinned (OpenSpec.ofChange chartNearWrong)

/- THE SECOND FORM. 'bulk': how many values and letters a reading holds, each counted each time it is reached (what is shared counts as often as it is met; a slice's spare places count too). A statement '..UptoSaid' is the law's where the arguments, and the package variables that the reading takes, are together of bulk at most 1048576: NARROWER than '..Said'. Prove '..Said' where nothing that the law and all that it calls make is longer than what came in: it says more and counts as full. Else prove '..UptoSaid'. A law counts once. -/
mutual
def uptoBulk {H : Type} : DataW H → Nat
  | .lit (.string bytes) => bytes.length + 1
  | .lit _ => 1
  | .nil => 1
  | .ptr d => uptoBulk d + 1
  | .slice elems spare => uptoBulkAll elems + uptoBulkAll spare + 1
  | .agg parts => uptoBulkAll parts + 1
  | .iface _ d => uptoBulk d + 1
  | .map entries => uptoBulkEntries entries + 1
  | .held _ => 1
def uptoBulkAll {H : Type} : List (DataW H) → Nat
  | [] => 0
  | d :: r => uptoBulk d + uptoBulkAll r
def uptoBulkEntries {H : Type} : List (Lit × DataW H) → Nat
  | [] => 0
  | x :: r => uptoBulkEntry x + uptoBulkEntries r
def uptoBulkEntry {H : Type} : Lit × DataW H → Nat
  | (.string bytes, d) => bytes.length + uptoBulk d + 1
  | (_, d) => uptoBulk d + 1
 end
def uptoSmall : (H : Type) → List (DataW H) → Bool := fun _ ds => decide (uptoBulkAll ds ≤ 1048576)
def OpenSpec.upto (s : _root_.Go.ChangeSpec) : _root_.Go.OpenSpec := { _root_.Go.OpenSpec.ofChange s with cond := some uptoSmall }

/-- 'tollhouselaw06.ChartSpirals', WHERE WHAT IT READS IS OF BULK AT MOST 1048576: true; the input reads as it did. -/
def chartSpiralsUptoRow : OpenClaim := { program := "ytpmjigghboifdaa", sum := "1503014df2668ce252531b0e45e0cd2368226d056784bbaa731875fa091de74a", func := "tollhouse/tollhouselaw06.ChartSpirals", spec := "chartSpirals", apart := false, narrowed := true }
def ChartSpiralsUptoSaid : Prop := chartSpiralsUptoRow.holds Try.pinned (OpenSpec.upto chartSpiralsSpec)

/-- 'tollhouselaw06.ChartReckons', WHERE WHAT IT READS IS OF BULK AT MOST 1048576: true; the input reads as it did. -/
def chartReckonsUptoRow : OpenClaim := { program := "ytpmjigghboifdaa", sum := "1503014df2668ce252531b0e45e0cd2368226d056784bbaa731875fa091de74a", func := "tollhouse/tollhouselaw06.ChartReckons", spec := "chartReckons", apart := false, narrowed := true }
def ChartReckonsUptoSaid : Prop := chartReckonsUptoRow.holds Try.pinned (OpenSpec.upto chartReckonsSpec)

/-- 'tollhouselaw06.ChartBack', WHERE WHAT IT READS IS OF BULK AT MOST 1048576: true; the input reads as it did. -/
def chartBackUptoRow : OpenClaim := { program := "ytpmjigghboifdaa", sum := "1503014df2668ce252531b0e45e0cd2368226d056784bbaa731875fa091de74a", func := "tollhouse/tollhouselaw06.ChartBack", spec := "chartBack", apart := false, narrowed := true }
def ChartBackUptoSaid : Prop := chartBackUptoRow.holds Try.pinned (OpenSpec.upto chartBackSpec)

/-- 'tollhouselaw06.ChartTurns', WHERE WHAT IT READS IS OF BULK AT MOST 1048576: true; the input reads as it did. -/
def chartTurnsUptoRow : OpenClaim := { program := "ytpmjigghboifdaa", sum := "1503014df2668ce252531b0e45e0cd2368226d056784bbaa731875fa091de74a", func := "tollhouse/tollhouselaw06.ChartTurns", spec := "chartTurns", apart := false, narrowed := true }
def ChartTurnsUptoSaid : Prop := chartTurnsUptoRow.holds Try.pinned (OpenSpec.upto chartTurnsSpec)

/-- 'tollhouselaw06.ChartLooks', WHERE WHAT IT READS IS OF BULK AT MOST 1048576: true; the input reads as it did. -/
def chartLooksUptoRow : OpenClaim := { program := "ytpmjigghboifdaa", sum := "1503014df2668ce252531b0e45e0cd2368226d056784bbaa731875fa091de74a", func := "tollhouse/tollhouselaw06.ChartLooks", spec := "chartLooks", apart := false, narrowed := true }
def ChartLooksUptoSaid : Prop := chartLooksUptoRow.holds Try.pinned (OpenSpec.upto chartLooksSpec)

/-- 'tollhouselaw06.ChartNear', WHERE WHAT IT READS IS OF BULK AT MOST 1048576: true; the input reads as it did. -/
def chartNearUptoRow : OpenClaim := { program := "ytpmjigghboifdaa", sum := "1503014df2668ce252531b0e45e0cd2368226d056784bbaa731875fa091de74a", func := "tollhouse/tollhouselaw06.ChartNear", spec := "chartNear", apart := false, narrowed := true }
def ChartNearUptoSaid : Prop := chartNearUptoRow.holds Try.pinned (OpenSpec.upto chartNearSpec)

end Rows
end Go.Proofs.Ytpmjigghboifdaa
