/- Webs that were made. -/
import Derived.Test.YtcfpbemoocegfaaWeb
namespace Go.Proofs.Ytcfpbemoocegfaa
set_option linter.unusedVariables false
set_option linter.unusedSimpArgs false
set_option linter.unnecessarySimpa false
open Go.RowKit

theorem WebAt.ofNew {w0 w w' : World} {l : List Asn} {TS TE : TypeId} {A1 A2 : Option Addr} {c1 c2 : Nat} {x : Wb} (h : Sat w0 w' l) {i j : Nat} (hi : l[i]? = some (row TS 2 (.slice A1 x.spots.length c1) x.spots.length (x.spots.flatMap spC))) (hj : l[j]? = some (row TE 8 (.slice A2 x.edges.length c2) x.edges.length (x.edges.flatMap edC)))
    (hs : x.spots.length ≤ 1000 ∧ x.edges.length ≤ 1000) : WebAt w' A1 c1 A2 c2 x := ⟨Recs.ofRow (h.rowOf hi) (by omega), Recs.ofRow (h.rowOf hj) (by omega)⟩
end Go.Proofs.Ytcfpbemoocegfaa
