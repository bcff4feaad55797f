/- Routes as they lie in memory. -/
import Derived.Test.YtcfpbemoocegfaaFill
namespace Go.Proofs.Ytcfpbemoocegfaa
set_option linter.unusedVariables false
set_option linter.unusedSimpArgs false
set_option linter.unnecessarySimpa false
open Go Go.RowKit

/-- A route and where its rows lie. -/
structure RtM where
  A1 : Option Addr
  c1 : Nat
  A2 : Option Addr
  c2 : Nat
  A3 : Option Addr
  c3 : Nat
  r : Rt
def rtC (m : RtM) : List Value := [.slice m.A1 m.r.nodes.length m.c1, .slice m.A2 m.r.edges.length m.c2, .slice m.A3 m.r.amts.length m.c3]
theorem rtC_len (m : RtM) : (rtC m).length = 3 := rfl
def rtRows (m : RtM) : List RowD := [⟨3, 1, .slice m.A1 m.r.nodes.length m.c1, m.r.nodes.length, m.r.nodes.flatMap iC_i64⟩, ⟨3, 1, .slice m.A2 m.r.edges.length m.c2, m.r.edges.length, m.r.edges.flatMap iC_i64⟩, ⟨26, 1, .slice m.A3 m.r.amts.length m.c3, m.r.amts.length, m.r.amts.flatMap iC_u64⟩]
/-- What one more way gives. -/
def nextR (x : Wb) (N E : List Int) (am : Int) (R : List Rt) : List Rt := match fillP x N E am with
  | some r => R ++ [r]
  | none => R
theorem nextR_none {x : Wb} {N E : List Int} {am : Int} {R : List Rt} (h : fillP x N E am = none) : nextR x N E am R = R := by unfold nextR; rw [h]
theorem nextR_some {x : Wb} {N E : List Int} {am : Int} {R : List Rt} {r : Rt} (h : fillP x N E am = some r) : nextR x N E am R = R ++ [r] := by unfold nextR; rw [h]
theorem bag_add {w0 w : World} {l : List Asn} {R : List RtM} (m : RtM) (S : Sat w0 w l) (b i j k : Nat) (hb : l[b]? = some (bag (R.flatMap rtRows)))
    (hi : l[i]? = some (row 3 1 (.slice m.A1 m.r.nodes.length m.c1) m.r.nodes.length (m.r.nodes.flatMap iC_i64))) (hj : l[j]? = some (row 3 1 (.slice m.A2 m.r.edges.length m.c2) m.r.edges.length (m.r.edges.flatMap iC_i64))) (hk : l[k]? = some (row 26 1 (.slice m.A3 m.r.amts.length m.c3) m.r.amts.length (m.r.amts.flatMap iC_u64)))
    (h1 : b ≠ i) (h2 : b ≠ j) (h3 : b ≠ k) (h4 : i ≠ j) (h5 : i ≠ k) (h6 : j ≠ k) : Sat w0 w ((((l.set b (bag ((R ++ [m]).flatMap rtRows))).set i emp).set j emp).set k emp) := by
  have hbl := (List.getElem?_eq_some_iff.1 hb).1
  have beq : ∀ {p q : Nat}, p ≠ q → Nat.beq p q = false := fun {p q} h => by
    cases hq : Nat.beq p q with
    | false => rfl
    | true => exact absurd (Nat.eq_of_beq_eq_true hq) h
  have S1 := S.bagAdd b i hb hi (beq h1)
  have S2 := S1.bagAdd b j (rs := R.flatMap rtRows ++ [⟨3, 1, .slice m.A1 m.r.nodes.length m.c1, m.r.nodes.length, m.r.nodes.flatMap iC_i64⟩]) (by rw [List.getElem?_set_ne (Ne.symm h1), List.getElem?_set_self hbl]) (by rw [List.getElem?_set_ne h4, List.getElem?_set_ne h2]; exact hj) (beq h2)
  have S3 := S2.bagAdd b k (by rw [List.getElem?_set_ne (Ne.symm h2), List.getElem?_set_self (by simpa using hbl)]) (by rw [List.getElem?_set_ne h6, List.getElem?_set_ne h3, List.getElem?_set_ne h5, List.getElem?_set_ne h3]; exact hk) (beq h3)
  have hz : (((((((l.set b (bag (R.flatMap rtRows ++ [⟨3, 1, .slice m.A1 m.r.nodes.length m.c1, m.r.nodes.length, m.r.nodes.flatMap iC_i64⟩]))).set i emp).set b (bag ((R.flatMap rtRows ++ [⟨3, 1, .slice m.A1 m.r.nodes.length m.c1, m.r.nodes.length, m.r.nodes.flatMap iC_i64⟩]) ++ [⟨3, 1, .slice m.A2 m.r.edges.length m.c2, m.r.edges.length, m.r.edges.flatMap iC_i64⟩]))).set j emp).set b (bag (((R.flatMap rtRows ++ [⟨3, 1, .slice m.A1 m.r.nodes.length m.c1, m.r.nodes.length, m.r.nodes.flatMap iC_i64⟩]) ++ [⟨3, 1, .slice m.A2 m.r.edges.length m.c2, m.r.edges.length, m.r.edges.flatMap iC_i64⟩]) ++ [⟨26, 1, .slice m.A3 m.r.amts.length m.c3, m.r.amts.length, m.r.amts.flatMap iC_u64⟩]))).set k emp)) = (((l.set b (bag ((R ++ [m]).flatMap rtRows))).set i emp).set j emp).set k emp := by
    have hr : ((R.flatMap rtRows ++ [⟨3, 1, .slice m.A1 m.r.nodes.length m.c1, m.r.nodes.length, m.r.nodes.flatMap iC_i64⟩]) ++ [⟨3, 1, .slice m.A2 m.r.edges.length m.c2, m.r.edges.length, m.r.edges.flatMap iC_i64⟩]) ++ [⟨26, 1, .slice m.A3 m.r.amts.length m.c3, m.r.amts.length, m.r.amts.flatMap iC_u64⟩] = (R ++ [m]).flatMap rtRows := by
      rw [List.flatMap_append, List.append_assoc, List.append_assoc]; rfl
    rw [hr]
    apply List.ext_getElem?
    intro q
    simp only [List.getElem?_set, List.length_set]
    by_cases q1 : k = q
    · simp only [q1, if_true]
    · by_cases q2 : j = q
      · have n1 : b ≠ q := by omega
        simp [q1, q2, n1]
      · by_cases q3 : i = q
        · have n1 : b ≠ q := by omega
          simp [q1, q2, q3, n1]
        · by_cases q4 : b = q
          · simp [q1, q2, q3, q4]
          · simp [q1, q2, q3, q4]
  rw [← hz]
  exact S3
theorem row_cap {w0 w : World} {l : List Asn} (S : Sat w0 w l) (i : Nat) {T : TypeId} {k n c : Nat} {A : Option Addr} {xs : List Value} (hi : l[i]? = some (row T k (.slice A n c) n xs)) : n ≤ c := by
  rcases (S.rowOf hi).2 with ⟨h1, h2⟩ | ⟨g', cap, cur, h1, h2, h3, h4, h5, h6, h7⟩
  · injection h1 with ha hn hc; omega
  · injection h1 with ha hn hc; omega
end Go.Proofs.Ytcfpbemoocegfaa
