/- A row that is an old one at first and a new one later; what sends come to, one by one: plain. -/
import Derived.Test.YtcfpbemoocegfaaGf
import Derived.Test.YtcfpbemoocegfaaWebP
namespace Go.Proofs.Ytcfpbemoocegfaa
set_option linter.unusedVariables false
set_option linter.unusedSimpArgs false
set_option linter.unnecessarySimpa false
open Go Go.RowKit

/-- Old as long as i is nothing, new then. -/
def rowI (i : Nat) (w0 : World) (T : TypeId) {α : Type} (k : Nat) (f : α → List Value) (A : Option Addr) (c : Nat) (X : List α) : Asn where
  sat F w := (i = 0 ∧ (∀ b, ¬ F b) ∧ Recs k f w0 A c X) ∨ (0 < i ∧ (row T k (.slice A X.length c) X.length (X.flatMap f)).sat F w)
  facts _ := True
  stay := by
    rintro F w w' h hk
    rcases h with h | ⟨h1, h2⟩
    · exact .inl h
    · exact .inr ⟨h1, (row T k (.slice A X.length c) X.length (X.flatMap f)).stay F w w' h2 hk⟩
  lt := by
    rintro F w j h hj
    rcases h with h | ⟨h1, h2⟩
    · exact absurd hj (h.2.1 j)
    · exact (row T k (.slice A X.length c) X.length (X.flatMap f)).lt F w j h2 hj
  out := fun _ _ _ => trivial
section
variable {w0 w : World} {l : List Asn} {α : Type} {k : Nat} {f : α → List Value} {A : Option Addr} {c : Nat} {X : List α} {T : TypeId}
theorem Sat.pushI (S : Sat w0 w l) (T : TypeId) (h : Recs k f w0 A c X) : Sat w0 w (l ++ [rowI 0 w0 T k f A c X]) := S.push (F := fun _ => False) (.inl ⟨rfl, fun _ h => h, h⟩) (fun _ hk => hk.elim) (Below.refl _ _)
theorem Sat.toI (S : Sat w0 w l) (q : Nat) (i : Nat) (hi : l[i]? = some (row T k (.slice A X.length c) X.length (X.flatMap f))) : Sat w0 w (l.set i (rowI (q + 1) w0 T k f A c X)) := S.turn hi fun F hF => ⟨F, .inr ⟨Nat.succ_pos _, hF⟩, fun _ h => h⟩
theorem Sat.ofI (S : Sat w0 w l) {q : Nat} (hq : 0 < q) (i : Nat) (hi : l[i]? = some (rowI q w0 T k f A c X)) : Sat w0 w (l.set i (row T k (.slice A X.length c) X.length (X.flatMap f))) := S.turn hi fun F hF => by
  rcases hF with ⟨h, _⟩ | ⟨_, h⟩
  · omega
  · exact ⟨F, h, fun _ h => h⟩
theorem Sat.stepI (S : Sat w0 w l) {q : Nat} (i : Nat) (hi : l[i]? = some (rowI q w0 T k f A c X)) (hq : 0 < q) (p : Nat) : Sat w0 w (l.set i (rowI (p + 1) w0 T k f A c X)) := S.turn hi fun F hF => by
  rcases hF with ⟨h, _⟩ | ⟨_, h⟩
  · omega
  · exact ⟨F, .inr ⟨Nat.succ_pos _, h⟩, fun _ h => h⟩
theorem rowI_recs (S : Sat w0 w l) (r i : Nat) {q : Nat} (hr : l[r]? = some (rest w0 (· < w0.heap.size))) (hi : l[i]? = some (rowI q w0 T k f A c X)) (hl : X.length ≤ 1000) : Recs k f w A c X := by
  obtain ⟨F, hF⟩ := S.get hi
  rcases hF with ⟨_, _, h⟩ | ⟨_, h⟩
  · exact h.mono (src_rest S hr h.src (src_lt h.src))
  · exact Recs.ofRow h.2 (by omega)
/-- The old one at nothing: what it is. -/
theorem Sat.zeroI (S : Sat w0 w l) (i : Nat) {q : Nat} (hi : l[i]? = some (rowI q w0 T k f A c X)) (hq : q = 0) : Recs k f w0 A c X := by
  obtain ⟨F, hF⟩ := S.get hi
  rcases hF with ⟨_, _, h⟩ | ⟨h1, _⟩
  · exact h
  · omega
end
section
variable {P : Program} {a : Act} {n : Nat} {L : List (Nat × Value)} {o : Oper} {w : World} {R : Value → World → Prop}
theorem op_nilA (x : Operand) (A : Option Addr) (j : Nat) (F : Fr a n L) (ho : o.op = .nilCheck x) (hx : val? L x = some (ptrA A j)) (hA : A.isSome = true) (hR : R (ptrA A j) w) : OpR P a w o R := by
  obtain ⟨ad, rfl⟩ := Option.isSome_iff_exists.1 hA
  refine op_run (v := ptrA (some ad) j) (w' := w) ?_ hR
  unfold execOp
  simp only [ho, F.val hx, ptrA, Option.map_some]
  rfl
end

theorem sentP_bad {x : Wb} {edge node n : Int} (h : chkP x ≠ 0) : sentP x edge node n = (noWeb, chkP x) := by unfold sentP; rw [if_pos h]
theorem sentP_out {x : Wb} {edge node n : Int} (hc : chkP x = 0) (h : edge < 0 ∨ (x.edges.length : Int) ≤ edge) : sentP x edge node n = (noWeb, 1) := by unfold sentP; rw [if_neg (by simpa using hc), dif_neg (by omega)]
theorem sentP_in {x : Wb} {k : Nat} {ed : Edg} (hc : chkP x = 0) (hed : x.edges[k]? = some ed) (node n : Int) : sentP x k node n =
    if sideP ed node < 0 then (noWeb, 1) else if ed.can (sideP ed node) < n then (noWeb, 28) else
    if (addP (ed.can (1 - sideP ed node)) n).2 = 0 then (⟨x.spots, x.edges.set k (ed.sent (sideP ed node) n)⟩, 0) else (noWeb, (addP (ed.can (1 - sideP ed node)) n).2) := by
  obtain ⟨hk, he⟩ := List.getElem?_eq_some_iff.1 hed
  unfold sentP
  rw [if_neg (by simpa using hc), dif_pos (by exact ⟨Int.natCast_nonneg k, by rw [Int.toNat_natCast]; exact hk⟩)]
  simp only [Int.toNat_natCast, he]
theorem sentP_none {x : Wb} {k : Nat} {ed : Edg} (hc : chkP x = 0) (hed : x.edges[k]? = some ed) {node : Int} (n : Int) (hs : sideP ed node = -1) : sentP x k node n = (noWeb, 1) := by
  rw [sentP_in hc hed, if_pos (by omega)]
theorem sentP_room {x : Wb} {k : Nat} {ed : Edg} (hc : chkP x = 0) (hed : x.edges[k]? = some ed) {node n s : Int} (hs : sideP ed node = s) (h0 : 0 ≤ s) (h : ed.can s < n) : sentP x k node n = (noWeb, 28) := by
  rw [sentP_in hc hed, if_neg (by omega), hs, if_pos h]
theorem sentP_over {x : Wb} {k : Nat} {ed : Edg} (hc : chkP x = 0) (hed : x.edges[k]? = some ed) {node n s : Int} (hs : sideP ed node = s) (h0 : 0 ≤ s) (h : ¬ ed.can s < n) (ho : (addP (ed.can (1 - s)) n).2 ≠ 0) : sentP x k node n = (noWeb, (addP (ed.can (1 - s)) n).2) := by
  rw [sentP_in hc hed, if_neg (by omega), hs, if_neg h, if_neg ho]
theorem sentP_ok {x : Wb} {k : Nat} {ed : Edg} (hc : chkP x = 0) (hed : x.edges[k]? = some ed) {node n s : Int} (hs : sideP ed node = s) (h0 : 0 ≤ s) (h : ¬ ed.can s < n) (ho : (addP (ed.can (1 - s)) n).2 = 0) : sentP x k node n = (⟨x.spots, x.edges.set k (ed.sent s n)⟩, 0) := by
  rw [sentP_in hc hed, if_neg (by omega), hs, if_neg h, if_pos ho]
theorem addP_is {a b : Int} (h : (addP a b).2 = 0) : (addP a b).1 = a + b ∧ a + b < 18446744073709551616 := by
  unfold addP at h ⊢
  split
  · rename_i h1; exact ⟨rfl, h1⟩
  · rename_i h1; rw [if_neg h1] at h; cases h
theorem noWeb_ok8 : noWeb.Ok := ⟨(fun e he => by cases he), (fun p hp => by cases hp)⟩
theorem sent_ok8 {x : Wb} (ok : x.Ok) {edge node n : Int} (hn : U64 n) : (sentP x edge node n).1.Ok ∧ (sentP x edge node n).1.spots.length ≤ x.spots.length ∧ (sentP x edge node n).1.edges.length ≤ x.edges.length := by
  have hno : noWeb.Ok ∧ noWeb.spots.length ≤ x.spots.length ∧ noWeb.edges.length ≤ x.edges.length := ⟨noWeb_ok8, Nat.zero_le _, Nat.zero_le _⟩
  by_cases hc : chkP x = 0
  · by_cases he : edge < 0 ∨ (x.edges.length : Int) ≤ edge
    · rw [sentP_out hc he]; exact hno
    · obtain ⟨k, rfl⟩ : ∃ k : Nat, edge = k := ⟨edge.toNat, by omega⟩
      have hk : x.edges[k]? = some (x.edges[k]'(by omega)) := List.getElem?_eq_getElem (by omega)
      rw [sentP_in hc hk]
      split
      · exact hno
      · split
        · exact hno
        · rename_i h2
          split
          · rename_i h3
            refine ⟨⟨fun e he => ?_, ok.s⟩, Nat.le_refl _, by simp⟩
            have h4 := (addP_is h3).2
            have hok := ok.e _ (List.mem_of_getElem? hk)
            rcases List.mem_or_eq_of_mem_set he with he | he
            · exact ok.e e he
            · rw [he]
              generalize x.edges[k] = ed at *
              have q0 := hok.c0; have q1 := hok.c1
              unfold U64 at *
              rcases side_cases ed node with ⟨hs, _⟩ | ⟨hs, _⟩ | ⟨hs, _⟩
              · rw [hs] at h2 h4
                simp [Edg.can] at h2 h4
                rw [hs]
                exact ⟨hok.a, hok.b, by simp [Edg.sent, U64]; omega, by simp [Edg.sent, U64]; omega, hok.b0, hok.r0, hok.b1, hok.r1⟩
              · rw [hs] at h2 h4
                simp [Edg.can] at h2 h4
                rw [hs]
                exact ⟨hok.a, hok.b, by simp [Edg.sent, U64]; omega, by simp [Edg.sent, U64]; omega, hok.b0, hok.r0, hok.b1, hok.r1⟩
              · omega
          · exact hno
  · rw [sentP_bad hc]; exact hno

/-- Sends, one by one. -/
def goL (x : Wb) : List (Int × Int × Int) → Wb × Int
  | [] => (x, 0)
  | t :: l => if (sentP x t.1 t.2.1 t.2.2).2 = 0 then goL (sentP x t.1 t.2.1 t.2.2).1 l else (noWeb, (sentP x t.1 t.2.1 t.2.2).2)
def trips (E N A : List Int) : List (Int × Int × Int) := E.zip (N.zip A)
def goR (x : Wb) (E N A : List Int) : Wb × Int := if chkP x = 0 then goL x (trips E N A) else (noWeb, chkP x)
theorem goR_bad {x : Wb} {E N A : List Int} (h : chkP x ≠ 0) : goR x E N A = (noWeb, chkP x) := by unfold goR; rw [if_neg h]
theorem goR_ok {x : Wb} {E N A : List Int} (h : chkP x = 0) : goL x ((trips E N A).drop 0) = goR x E N A := by unfold goR; rw [if_pos h]; rfl
theorem goR_nil {x : Wb} {E N A : List Int} (h : chkP x = 0) (hE : E.length = 0) : goR x E N A = (x, 0) := by
  unfold goR; rw [if_pos h, List.eq_nil_of_length_eq_zero hE]; rfl
theorem trips_at {E N A : List Int} {i : Nat} {e n a : Int} (h1 : E[i]? = some e) (h2 : N[i]? = some n) (h3 : A[i]? = some a) : (trips E N A).drop i = (e, n, a) :: (trips E N A).drop (i + 1) := by
  have h : (trips E N A)[i]? = some (e, n, a) := by
    unfold trips
    rw [List.getElem?_zip_eq_some]
    exact ⟨h1, by rw [List.getElem?_zip_eq_some]; exact ⟨h2, h3⟩⟩
  obtain ⟨hi, he⟩ := List.getElem?_eq_some_iff.1 h
  rw [List.drop_eq_getElem_cons hi, he]
theorem trips_end {E N A : List Int} {i : Nat} (h : E.length ≤ i) : (trips E N A).drop i = [] := List.drop_of_length_le (by unfold trips; rw [List.length_zip]; omega)
theorem goL_on {x y : Wb} {e n a er : Int} {l : List (Int × Int × Int)} (h : sentP x e n a = (y, er)) (h0 : er = 0) : goL x ((e, n, a) :: l) = goL y l := by
  simp only [goL, h, if_pos h0]
theorem goL_off {x y : Wb} {e n a er : Int} {l : List (Int × Int × Int)} (h : sentP x e n a = (y, er)) (h0 : er ≠ 0) : goL x ((e, n, a) :: l) = (noWeb, er) := by
  simp only [goL, h, if_neg h0]
theorem sent_err {x y : Wb} {e n a er : Int} (h : sentP x e n a = (y, er)) (h0 : er ≠ 0) : y = noWeb := by
  unfold sentP at h
  repeat' split at h
  all_goals (cases h; first | rfl | exact absurd rfl h0)
theorem goL_ok {T : List (Int × Int × Int)} (hT : ∀ t ∈ T, U64 t.2.2) : ∀ {x : Wb}, x.Ok → (goL x T).1.Ok ∧ (goL x T).1.spots.length ≤ x.spots.length ∧ (goL x T).1.edges.length ≤ x.edges.length := by
  induction T with
  | nil => intro x ok; exact ⟨ok, Nat.le_refl _, Nat.le_refl _⟩
  | cons t T ih =>
    intro x ok
    obtain ⟨h1, h2, h3⟩ := sent_ok8 ok (edge := t.1) (node := t.2.1) (hT t (by simp))
    unfold goL
    split
    · obtain ⟨i1, i2, i3⟩ := ih (fun t ht => hT t (by simp [ht])) h1
      exact ⟨i1, by omega, by omega⟩
    · exact ⟨noWeb_ok8, Nat.zero_le _, Nat.zero_le _⟩
theorem goR_fit {x : Wb} (ok : x.Ok) {E N A : List Int} (hA : ∀ a ∈ A, U64 a) : (goR x E N A).1.Ok ∧ (goR x E N A).1.spots.length ≤ x.spots.length ∧ (goR x E N A).1.edges.length ≤ x.edges.length := by
  unfold goR
  split
  · refine goL_ok (fun t ht => ?_) ok
    obtain ⟨i, hi, he⟩ := List.getElem_of_mem ht
    have h : (trips E N A)[i]? = some t := by rw [List.getElem?_eq_getElem hi, he]
    unfold trips at h
    rw [List.getElem?_zip_eq_some, List.getElem?_zip_eq_some] at h
    exact hA _ (List.mem_of_getElem? h.2.2)
  · exact ⟨noWeb_ok8, Nat.zero_le _, Nat.zero_le _⟩
theorem Edg.sent0 {ed : Edg} {n : Int} (h : (addP ed.c1 n).2 = 0) : ed.sent 0 n = ⟨ed.a, ed.b, ed.c0 - n, (addP ed.c1 n).1, ed.b0, ed.r0, ed.b1, ed.r1⟩ := by
  rw [(addP_is h).1]; rfl
theorem Edg.sent1 {ed : Edg} {n : Int} (h : (addP ed.c0 n).2 = 0) : ed.sent 1 n = ⟨ed.a, ed.b, (addP ed.c0 n).1, ed.c1 - n, ed.b0, ed.r0, ed.b1, ed.r1⟩ := by
  rw [(addP_is h).1]; rfl
end Go.Proofs.Ytcfpbemoocegfaa
