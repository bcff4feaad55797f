/- Code, walked: what stands behind several ways is walked once. Plain: over any program. -/
import Derived.Test.YtidcdfilfccigaaGc
namespace Go.Proofs.Ytidcdfilfccigaa
set_option linter.unusedVariables false
set_option linter.unusedSimpArgs false
set_option linter.unnecessarySimpa false
open Go Go.RowKit

/-- What stands behind the first k parts. -/
def tailAt : Nat → Code → Code
  | 0, c => c
  | k + 1, .seq _ y => tailAt k y
  | _ + 1, c => c
theorem cutK {P : Program} {Q : Exit → Act → World → Prop} {a : Act} {w : World} {c : Code} (k : Nat) (M : Act → World → Prop) (hy : ∀ a w, M a w → (tailAt k c).wp P Q a w) (h : (∀ a w, M a w → (tailAt k c).wp P Q a w) → c.wp P Q a w) : c.wp P Q a w := h hy
end Go.Proofs.Ytidcdfilfccigaa
