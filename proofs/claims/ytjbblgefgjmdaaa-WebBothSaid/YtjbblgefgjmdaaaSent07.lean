/- Walks over webs: an amount goes over a channel, from either end. -/
import Derived.Test.YtjbblgefgjmdaaaSent07B
namespace Go.Proofs.Ytjbblgefgjmdaaa
set_option linter.unusedVariables false
set_option linter.unusedSimpArgs false
set_option linter.unnecessarySimpa false
open Go.RowKit

set_option maxRecDepth 100000 in
set_option maxHeartbeats 4000000 in
theorem sent_any (w : World) (As : Option Addr) (cs : Nat) (Ae : Option Addr) (ce : Nat) (x : Wb) (h : WebAt w As cs Ae ce x) (ok : x.Ok) (edge node n : Int) (hn : U64 n) (he : I64 edge) (hnd : I64 node) : Calls Try.prog 15 #[.agg #[.slice As x.spots.length cs, .slice Ae x.edges.length ce], .int .i64 edge, .int .i64 node, .int .u64 n] w fun e w' => ∃ A1 c1 A2 c2, e = .returned (.tuple #[.agg #[.slice A1 (sentP x edge node n).1.spots.length c1, .slice A2 (sentP x edge node n).1.edges.length c2], .int .i64 (sentP x edge node n).2]) ∧ WebAt w' A1 c1 A2 c2 (sentP x edge node n).1 ∧ Below w.heap.size w w' := by
  by_cases hX : ∀ e, x.edges[edge.toNat]? = some e → sideP e node ≠ 1
  · exact sent_s0 w As cs Ae ce x h ok edge node n hn he hnd (Lib.hid hX)
  · refine sent_s1 w As cs Ae ce x h ok edge node n hn he hnd (Lib.hid fun e he h0 => hX fun e2 he2 h1 => ?_)
    rw [he] at he2
    obtain rfl := Option.some.inj he2
    rw [h0] at h1
    cases h1
end Go.Proofs.Ytjbblgefgjmdaaa
