import Derived.Test.YtpmjigghboifdaaTurnsA
import Derived.Test.YtpmjigghboifdaaTurnsB
import Derived.Test.YtpmjigghboifdaaTurnsC
import Derived.Test.YtpmjigghboifdaaTurnsD
import Derived.Test.YtpmjigghboifdaaTurnsE
import Derived.Test.YtpmjigghboifdaaTurnsF
namespace Go.Proofs.Ytpmjigghboifdaa
open Go.RowKit Fl
theorem turns_any (a1 a2 b1 b2 o1 o2 n : Int) (hn1 : -9223372036854775808 ≤ n) (hn2 : n ≤ 9223372036854775807) (w : World) : Calls Try.prog 6 #[.agg #[.int .i64 a1, .int .i64 a2], .agg #[.int .i64 b1, .int .i64 b2], .agg #[.int .i64 o1, .int .i64 o2], .int .i64 n] w fun e w' =>
    e = .returned (.bool true) ∧ Below w.heap.size w w' := by
  by_cases he : (turnP a1 a2 o1 o2 n).2.2 = 0
  · obtain ⟨⟨h1, _, _⟩, _⟩ := turn_ok he
    by_cases hf : (turnP b1 b2 o1 o2 n).2.2 = 0
    · obtain ⟨⟨h2, _, _⟩, _⟩ := turn_ok hf
      exact turns_a a1 a2 b1 b2 o1 o2 n hn1 hn2 he hf h1 h2 w
    · rcases h2 : inB b1 b2 with _ | _
      · exact turns_c a1 a2 b1 b2 o1 o2 n hn1 hn2 he hf h1 h2 w
      · exact turns_b a1 a2 b1 b2 o1 o2 n hn1 hn2 he hf h1 h2 w
  · rcases h1 : inB a1 a2 with _ | _
    · exact turns_f a1 a2 b1 b2 o1 o2 n hn1 hn2 he h1 w
    · rcases h2 : inB b1 b2 with _ | _
      · exact turns_e a1 a2 b1 b2 o1 o2 n hn1 hn2 he h1 h2 w
      · exact turns_d a1 a2 b1 b2 o1 o2 n hn1 hn2 he h1 h2 w
end Go.Proofs.Ytpmjigghboifdaa
