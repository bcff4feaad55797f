/-
  No cell of these rows narrows 'for every input' (looked for: loops, veiled, ifaces, maps, wideKeys, modest, calm, conditions, laid).
  DERIVED. THE GIVEN ROWS OF THIS SEAT. 4 by the template 'for every input the law returns true; each argument reads behind the call as it read before'; 0 by the template 'total and deterministic' (their statements: YtidcdfilfccigaaTotals.lean).
  GIVEN WITH THE SEED: the statements are not yours to turn. If you find one false, say at which input.
  Laid BY PROGRAM, IN A SANDBOX (cutbox-rows.mjs): the forced cells as the released guide's own fill.sh prints them over the translation a40731616cfcdf1f… (all of the seat's roots in one cut). By AI agents, Wed Nov 11 2026. No macro, syntax, notation, axiom, sorry.
-/
import Derived.Test.YtidcdfilfccigaaChecked
import GoSem.Claim
import GoSem.ClaimJoined
import GoSem.ClaimMapViews
import Derived.JoinedTies
import Derived.KernelRfl
namespace Go.Proofs.Ytidcdfilfccigaa
/- THE CELL 'sum', in the pinned program and in every row, IS THE sha256 OF THE DUMP (.gsa) THAT YtidcdfilfccigaaProg.lean LOADS. Nothing in Lean hashes anything: it is a label: what it is worth is what the hold of that sum in a sandbox is worth. -/
noncomputable def Try.pinned : Pinned := { name := "ytidcdfilfccigaa", sum := "a40731616cfcdf1fc4381daec87e4740ae69b3f147092cf8543fa0d13b1aa0ac", checked := Try.checked }
namespace Rows
def none {H : Type} : Left H := { results := [], args := [] }

/-- 'tollhouselaw17.LogbookLives': WHATEVER THE INPUT: true; the input reads as it did. -/
def logbookLivesSpec : ChangeSpec := { name := "logbookLives", fn := fun _ => fun
  | [d] => { results := [.lit (.bool true)], args := [d] }
  | _ => none }
def logbookLivesRow : OpenClaim := { program := "ytidcdfilfccigaa", sum := "a40731616cfcdf1fc4381daec87e4740ae69b3f147092cf8543fa0d13b1aa0ac", func := "tollhouse/tollhouselaw17.LogbookLives", spec := "logbookLives", unfollowed := true, recurses := true, apart := false }
def LogbookLivesSaid : Prop := logbookLivesRow.holds Try.pinned (OpenSpec.ofChange logbookLivesSpec)

/-- ITS FALSE NEIGHBOUR: 'it returns false'. Refute it at one input. -/
def logbookLivesWrong : ChangeSpec := { name := "logbookLives", fn := fun _ => fun
  | [d] => { results := [.lit (.bool false)], args := [d] }
  | _ => none }
def LogbookLivesWrongFalsely : Prop := logbookLivesRow.holds Try.pinned (OpenSpec.ofChange logbookLivesWrong)

/-- 'tollhouselaw17.LogbookNil': WHATEVER THE INPUT: true; the input reads as it did. -/
def logbookNilSpec : ChangeSpec := { name := "logbookNil", fn := fun _ => fun
  | [d1, d2] => { results := [.lit (.bool true)], args := [d1, d2] }
  | _ => none }
def logbookNilRow : OpenClaim := { program := "ytidcdfilfccigaa", sum := "a40731616cfcdf1fc4381daec87e4740ae69b3f147092cf8543fa0d13b1aa0ac", func := "tollhouse/tollhouselaw17.LogbookNil", spec := "logbookNil", unfollowed := true, recurses := true, apart := false }
def LogbookNilSaid : Prop := logbookNilRow.holds Try.pinned (OpenSpec.ofChange logbookNilSpec)

/-- ITS FALSE NEIGHBOUR: 'it returns false'. Refute it at one input. -/
def logbookNilWrong : ChangeSpec := { name := "logbookNil", fn := fun _ => fun
  | [d1, d2] => { results := [.lit (.bool false)], args := [d1, d2] }
  | _ => none }
def LogbookNilWrongFalsely : Prop := logbookNilRow.holds Try.pinned (OpenSpec.ofChange logbookNilWrong)

/-- 'tollhouselaw17.LogbookLasts': WHATEVER THE INPUT: true; the input reads as it did. -/
def logbookLastsSpec : ChangeSpec := { name := "logbookLasts", fn := fun _ => fun
  | [d] => { results := [.lit (.bool true)], args := [d] }
  | _ => none }
def logbookLastsRow : OpenClaim := { program := "ytidcdfilfccigaa", sum := "a40731616cfcdf1fc4381daec87e4740ae69b3f147092cf8543fa0d13b1aa0ac", func := "tollhouse/tollhouselaw17.LogbookLasts", spec := "logbookLasts", unfollowed := true, recurses := true, apart := false }
def LogbookLastsSaid : Prop := logbookLastsRow.holds Try.pinned (OpenSpec.ofChange logbookLastsSpec)

/-- ITS FALSE NEIGHBOUR: 'it returns false'. Refute it at one input. -/
def logbookLastsWrong : ChangeSpec := { name := "logbookLasts", fn := fun _ => fun
  | [d] => { results := [.lit (.bool false)], args := [d] }
  | _ => none }
def LogbookLastsWrongFalsely : Prop := logbookLastsRow.holds Try.pinned (OpenSpec.ofChange logbookLastsWrong)

/-- 'tollhouselaw17.LogbookPlays': WHATEVER THE INPUT: true; the input reads as it did. -/
def logbookPlaysSpec : ChangeSpec := { name := "logbookPlays", fn := fun _ => fun
  | [d] => { results := [.lit (.bool true)], args := [d] }
  | _ => none }
def logbookPlaysRow : OpenClaim := { program := "ytidcdfilfccigaa", sum := "a40731616cfcdf1fc4381daec87e4740ae69b3f147092cf8543fa0d13b1aa0ac", func := "tollhouse/tollhouselaw17.LogbookPlays", spec := "logbookPlays", unfollowed := true, recurses := true, apart := false }
def LogbookPlaysSaid : Prop := logbookPlaysRow.holds Try.pinned (OpenSpec.ofChange logbookPlaysSpec)

/-- ITS FALSE NEIGHBOUR: 'it returns false'. Refute it at one input. -/
def logbookPlaysWrong : ChangeSpec := { name := "logbookPlays", fn := fun _ => fun
  | [d] => { results := [.lit (.bool false)], args := [d] }
  | _ => none }
def LogbookPlaysWrongFalsely : Prop := logbookPlaysRow.holds Try.pinned (OpenSpec.ofChange logbookPlaysWrong)

/- THE SECOND FORM. 'bulk': how many values and letters a reading holds, each counted each time it is reached (what is shared counts as often as it is met; a slice's spare places count too). A statement '..UptoSaid' is the law's where the arguments, and the package variables that the reading takes, are together of bulk at most 1048576: NARROWER than '..Said'. Prove '..Said' where nothing that the law and all that it calls make is longer than what came in: it says more and counts as full. Else prove '..UptoSaid'. A law counts once. -/
mutual
def uptoBulk {H : Type} : DataW H → Nat
  | .lit (.string bytes) => bytes.length + 1
  | .lit _ => 1
  | .nil => 1
  | .ptr d => uptoBulk d + 1
  | .slice elems spare => uptoBulkAll elems + uptoBulkAll spare + 1
  | .agg parts => uptoBulkAll parts + 1
  | .iface _ d => uptoBulk d + 1
  | .map entries => uptoBulkEntries entries + 1
  | .held _ => 1
def uptoBulkAll {H : Type} : List (DataW H) → Nat
  | [] => 0
  | d :: r => uptoBulk d + uptoBulkAll r
def uptoBulkEntries {H : Type} : List (Lit × DataW H) → Nat
  | [] => 0
  | x :: r => uptoBulkEntry x + uptoBulkEntries r
def uptoBulkEntry {H : Type} : Lit × DataW H → Nat
  | (.string bytes, d) => bytes.length + uptoBulk d + 1
  | (_, d) => uptoBulk d + 1
 end
def uptoSmall : (H : Type) → List (DataW H) → Bool := fun _ ds => decide (uptoBulkAll ds ≤ 1048576)
def OpenSpec.upto (s : _root_.Go.ChangeSpec) : _root_.Go.OpenSpec := { _root_.Go.OpenSpec.ofChange s with cond := some uptoSmall }

/-- 'tollhouselaw17.LogbookLives', WHERE WHAT IT READS IS OF BULK AT MOST 1048576: true; the input reads as it did. -/
def logbookLivesUptoRow : OpenClaim := { program := "ytidcdfilfccigaa", sum := "a40731616cfcdf1fc4381daec87e4740ae69b3f147092cf8543fa0d13b1aa0ac", func := "tollhouse/tollhouselaw17.LogbookLives", spec := "logbookLives", unfollowed := true, recurses := true, apart := false, narrowed := true }
def LogbookLivesUptoSaid : Prop := logbookLivesUptoRow.holds Try.pinned (OpenSpec.upto logbookLivesSpec)

/-- 'tollhouselaw17.LogbookNil', WHERE WHAT IT READS IS OF BULK AT MOST 1048576: true; the input reads as it did. -/
def logbookNilUptoRow : OpenClaim := { program := "ytidcdfilfccigaa", sum := "a40731616cfcdf1fc4381daec87e4740ae69b3f147092cf8543fa0d13b1aa0ac", func := "tollhouse/tollhouselaw17.LogbookNil", spec := "logbookNil", unfollowed := true, recurses := true, apart := false, narrowed := true }
def LogbookNilUptoSaid : Prop := logbookNilUptoRow.holds Try.pinned (OpenSpec.upto logbookNilSpec)

/-- 'tollhouselaw17.LogbookLasts', WHERE WHAT IT READS IS OF BULK AT MOST 1048576: true; the input reads as it did. -/
def logbookLastsUptoRow : OpenClaim := { program := "ytidcdfilfccigaa", sum := "a40731616cfcdf1fc4381daec87e4740ae69b3f147092cf8543fa0d13b1aa0ac", func := "tollhouse/tollhouselaw17.LogbookLasts", spec := "logbookLasts", unfollowed := true, recurses := true, apart := false, narrowed := true }
def LogbookLastsUptoSaid : Prop := logbookLastsUptoRow.holds Try.pinned (OpenSpec.upto logbookLastsSpec)

/-- 'tollhouselaw17.LogbookPlays', WHERE WHAT IT READS IS OF BULK AT MOST 1048576: true; the input reads as it did. -/
def logbookPlaysUptoRow : OpenClaim := { program := "ytidcdfilfccigaa", sum := "a40731616cfcdf1fc4381daec87e4740ae69b3f147092cf8543fa0d13b1aa0ac", func := "tollhouse/tollhouselaw17.LogbookPlays", spec := "logbookPlays", unfollowed := true, recurses := true, apart := false, narrowed := true }
def LogbookPlaysUptoSaid : Prop := logbookPlaysUptoRow.holds Try.pinned (OpenSpec.upto logbookPlaysSpec)

end Rows
end Go.Proofs.Ytidcdfilfccigaa
