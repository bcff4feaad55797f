/- Walk over the document's logbook: what bytes tell. -/
import Derived.Test.YtidcdfilfccigaaDocA17
import Derived.Test.YtidcdfilfccigaaLgE17
import Derived.Test.YtidcdfilfccigaaLgD17
namespace Go.Proofs.Ytidcdfilfccigaa
set_option linter.unusedVariables false
set_option linter.unusedSimpArgs false
set_option linter.unnecessarySimpa false
open Go Go.RowKit

theorem nextP_no {X : Bs} (h : X.length < 4 ∨ n4p X < 2 ∨ X.length < n4p X + 5 ∨ ¬ X.getD (4 + n4p X) 0 = 165 ∨ n4p X < 2 + (X.getD 5 0).toNat) : nextP X = none := by
  unfold nextP
  split
  · rfl
  · split
    · rfl
    · split
      · rfl
      · rename_i h1 h2 h3
        rcases h with h | h | h | h | h
        · exact absurd h h1
        · exact absurd (.inl h) h2
        · exact absurd (.inr (.inl h)) h2
        · exact absurd (.inr (.inr h)) h2
        · exact absurd h h3
theorem drop_getD (X : Bs) (p i : Nat) : (X.drop p).getD i 0 = X.getD (p + i) 0 := by simp [List.getD, List.getElem?_drop]
theorem n_at {X : Bs} (p : Nat) : (X.getD p 0).toNat * 16777216 + (X.getD (p + 1) 0).toNat * 65536 + (X.getD (p + 2) 0).toNat * 256 + (X.getD (p + 3) 0).toNat = n4p (X.drop p) := by
  unfold n4p n4
  rw [drop_getD, drop_getD, drop_getD, drop_getD]
  simp only [Nat.add_zero]
  omega
theorem n_four (X : Bs) : (X.getD 0 0).toNat * 16777216 + (X.getD 1 0).toNat * 65536 + (X.getD 2 0).toNat * 256 + (X.getD 3 0).toNat = n4p X := n_at (X := X) 0
theorem next_at {X : Bs} {p : Nat} (h1 : p + 4 ≤ X.length) (h2 : ¬ n4p (X.drop p) < 2) (h3 : ¬ X.length ≤ p + 4 + n4p (X.drop p)) (h4 : X.getD (p + 4 + n4p (X.drop p)) 0 = 165) (h5 : ¬ n4p (X.drop p) < 2 + (X.getD (p + 5) 0).toNat) :
    nextP (X.drop p) = some (X.getD (p + 4) 0, (X.take (p + 6 + (X.getD (p + 5) 0).toNat)).drop (p + 6), (X.take (p + 4 + n4p (X.drop p))).drop (p + 6 + (X.getD (p + 5) 0).toNat), X.drop (p + 5 + n4p (X.drop p))) := by
  have hl : (X.drop p).length = X.length - p := List.length_drop
  unfold nextP
  rw [if_neg (by omega), drop_getD, if_neg (by rw [show p + (4 + n4p (X.drop p)) = p + 4 + n4p (X.drop p) from by omega, h4]; rintro (h | h | h); omega; omega; exact h rfl), drop_getD, if_neg h5, drop_getD]
  have e1 : bodyP (X.drop p) (n4p (X.drop p)) = (X.take (p + 4 + n4p (X.drop p))).drop (p + 4) := by
    unfold bodyP
    rw [List.take_drop, List.drop_drop, Nat.add_assoc]
  have e2 : ((bodyP (X.drop p) (n4p (X.drop p))).take (2 + (X.getD (p + 5) 0).toNat)).drop 2 = (X.take (p + 6 + (X.getD (p + 5) 0).toNat)).drop (p + 6) := by
    rw [e1, List.take_drop, List.drop_drop, List.take_take, Nat.min_eq_left (by omega)]
    rw [show p + 4 + (2 + (X.getD (p + 5) 0).toNat) = p + 6 + (X.getD (p + 5) 0).toNat from by omega]
  have e3 : (bodyP (X.drop p) (n4p (X.drop p))).drop (2 + (X.getD (p + 5) 0).toNat) = (X.take (p + 4 + n4p (X.drop p))).drop (p + 6 + (X.getD (p + 5) 0).toNat) := by
    rw [e1, List.drop_drop, show p + 4 + (2 + (X.getD (p + 5) 0).toNat) = p + 6 + (X.getD (p + 5) 0).toNat from by omega]
  have e4 : (X.drop p).drop (5 + n4p (X.drop p)) = X.drop (p + 5 + n4p (X.drop p)) := by rw [List.drop_drop, Nat.add_assoc]
  rw [e2, e3, e4]
theorem next_stop {X : Bs} {p : Nat} (hp : p ≤ X.length) (h : ¬ p + 4 ≤ X.length ∨ n4p (X.drop p) < 2 ∨ X.length ≤ p + 4 + n4p (X.drop p) ∨ ¬ X.getD (p + 4 + n4p (X.drop p)) 0 = 165 ∨ n4p (X.drop p) < 2 + (X.getD (p + 5) 0).toNat) : nextP (X.drop p) = none := by
  have hl : (X.drop p).length = X.length - p := List.length_drop
  refine nextP_no ?_
  rw [drop_getD, drop_getD]
  rcases h with h | h | h | h | h
  · exact .inl (by omega)
  · exact .inr (.inl h)
  · exact .inr (.inr (.inl (by omega)))
  · exact .inr (.inr (.inr (.inl (by rw [show p + (4 + n4p (X.drop p)) = p + 4 + n4p (X.drop p) from by omega]; exact h))))
  · exact .inr (.inr (.inr (.inr h)))
theorem next_atN {X nm vl : Bs} {p nn : Nat} (hn : nn = n4p (X.drop p)) (h1 : p + 4 ≤ X.length) (h2 : ¬ nn < 2) (h3 : ¬ X.length ≤ p + 4 + nn) (h4 : X.getD (p + 4 + nn) 0 = 165) (h5 : ¬ nn < 2 + (X.getD (p + 5) 0).toNat)
    (hm : nm = (X.take (p + 6 + (X.getD (p + 5) 0).toNat)).drop (p + 6)) (hv : vl = (X.take (p + 4 + nn)).drop (p + 6 + (X.getD (p + 5) 0).toNat)) : nextP (X.drop p) = some (X.getD (p + 4) 0, nm, vl, X.drop (p + 5 + nn)) := by
  subst hm; subst hv; subst hn
  exact next_at h1 h2 h3 h4 h5
theorem next_stopN {X : Bs} {p nn : Nat} (hn : nn = n4p (X.drop p)) (hp : p ≤ X.length) (h : ¬ p + 4 ≤ X.length ∨ nn < 2 ∨ X.length ≤ p + 4 + nn ∨ ¬ X.getD (p + 4 + nn) 0 = 165 ∨ nn < 2 + (X.getD (p + 5) 0).toNat) : nextP (X.drop p) = none := by
  subst hn
  exact next_stop hp h
set_option maxRecDepth 100000 in
set_option maxHeartbeats 4000000 in
theorem rtell_any (w : World) (Ax : Option Addr) (cx : Nat) (X : Bs) (hX : Recs 1 yC w Ax cx X) (hcx : X.length ≤ cx) (hl : X.length ≤ 262144) : Calls Try.prog 46 #[.slice Ax X.length cx] w fun e w' => ∃ A' c', e = .returned (.tuple #[.int .u32 ((tellP X).1 : Nat), .bool (tellP X).2.1, .slice A' (tellP X).2.2.length c']) ∧ Sat w w' [rest w (· < w.heap.size), row 100 2 (.slice A' (tellP X).2.2.length c') (tellP X).2.2.length ((tellP X).2.2.flatMap nvC)] := by
 refine enter 167 Try.func46 rfl rfl rfl fun a F => ?_
 have S := Sat.pushRest w
 refine s_reg ?_
 refine l_pk 3 (fun L => (4, .slice none 0 0) :: (3, .bool false) :: (2, .int .u32 0) :: L) F fun a F => ?_
 refine l_then ?_
 refine s_reg ?_
 refine l_pk 2 (fun L => (6, .bool false) :: (5, .int .u32 0) :: L) F fun a F => ?_
 refine l_then ?_
 refine s_reg ?_
 refine l_pk 1 (fun L => (7, .slice none 0 0) :: L) F fun a F => ?_
 refine l_then ?_
 refine s_reg ?_
 refine l_pk 2 (fun L => (9, .int .i64 0) :: (8, .int .i64 0) :: L) F fun a F => ?_
 refine l_then ?_
 refine wp_seq ?_
 refine wp_block ?_
 have S := S.nilRow 100 2
 refine wp_loop_m (fun m a z => ∃ (pp : Nat) (cc : Nat) (lif : Nat) (sl : Bool) (LL : List NV) (Aq : Option Addr) (cq : Nat), m = X.length - pp ∧ (pp ≤ X.length) ∧ (tellG (decide (cc = 0)) (lif, sl, LL) (X.drop pp) = tellP X) ∧ (Rises LL) ∧ (LL.length ≤ cc) ∧ (cc ≤ pp) ∧ (lif < 4294967296) ∧ Fr a 167 [(0, .slice Ax X.length cx), (5, .int .u32 (lif : Nat)), (6, .bool sl), (7, .slice Aq LL.length cq), (8, .int .i64 (pp : Nat)), (9, .int .i64 (cc : Nat))] ∧ Sat w z [rest w (· < w.heap.size), row 100 2 (.slice Aq LL.length cq) LL.length (LL.flatMap nvC)]) _ ⟨0, 0, 0, false, [], none, 0, rfl, Nat.zero_le _, rfl, Rises.nil, (by simp), Nat.le_refl _, (by decide), F.subk, S⟩ ?_
 rintro m a z ⟨pp, cc, lif, sl, LL, Aq, cq, hm, hf1, hf2, hf3, hf4, hf5, hf6, F, S⟩
 obtain ⟨hpl, htg, hri, hlc, hcp, hlif⟩ := And.intro hf1 (And.intro hf2 (And.intro hf3 (And.intro hf4 (And.intro hf5 hf6))))
 refine wp_seq ?_
 refine s_reg ?_
 refine l_pk 1 (fun L => (15, .int .i64 (pp : Nat)) :: L) F fun a F => ?_
 refine l_do F rfl rfl (op_pk F (v0 := .int .i64 (IntKind.wrap .i64 ((pp : Nat) + 4))) (v := .int .i64 (pp + 4 : Nat)) (wrn_i64 (by omega) (by omega) (by omega)) fun a F => ?_)
 refine l_pk 2 (fun L => (18, .int .i64 (X.length : Nat)) :: (17, .slice Ax X.length cx) :: L) F fun a F => ?_
 by_cases ht7 : ((pp + 4 : Nat) : Int) ≤ ((X.length : Nat) : Int)
 ·
  have hgb0 := (X.getD pp 0).toNat_lt
  have hgb1 := (X.getD (pp + 1) 0).toNat_lt
  have hgb2 := (X.getD (pp + 2) 0).toNat_lt
  have hgb3 := (X.getD (pp + 3) 0).toNat_lt
  have hgb4 := (X.getD (pp + 4) 0).toNat_lt
  have hgb5 := (X.getD (pp + 5) 0).toNat_lt
  obtain ⟨m0, hm0⟩ : ∃ q : Nat, q = (X.getD pp 0).toNat * 16777216 := ⟨_, rfl⟩
  obtain ⟨m1, hm1⟩ : ∃ q : Nat, q = (X.getD (pp + 1) 0).toNat * 65536 := ⟨_, rfl⟩
  obtain ⟨m2, hm2⟩ : ∃ q : Nat, q = (X.getD (pp + 2) 0).toNat * 256 := ⟨_, rfl⟩
  refine l_do F rfl rfl (op_pk F (v0 := .bool (decide (((pp + 4 : Nat) : Int) ≤ ((X.length : Nat) : Int)))) (v := .bool true) (leqT ht7) fun a F => ?_)
  refine l_then ?_
  refine c_t F rfl ?_
  refine wp_skip ?_
  refine then_n ?_
  refine wp_block ?_
  refine wp_seq ?_
  refine region_gx (fun D => fun (_ : Unit) => [rest w (· < w.heap.size), row 100 2 (.slice Aq LL.length cq) LL.length (LL.flatMap nvC)]) (fun (_ : Unit) => [.slice Ax X.length cx, .int .i64 (pp : Nat), ptrA Ax (pp * 1), .int .u8 ((X.getD pp 0).toNat : Nat), .int .i64 ((X.getD pp 0).toNat : Nat), .int .i64 (m0 : Nat), .slice Ax X.length cx, .int .i64 (pp : Nat), .int .i64 (pp + 1 : Nat), ptrA Ax ((pp + 1) * 1), .int .u8 ((X.getD (pp + 1) 0).toNat : Nat), .int .i64 ((X.getD (pp + 1) 0).toNat : Nat), .int .i64 (m1 : Nat), .int .i64 (m0 + m1 : Nat), .slice Ax X.length cx, .int .i64 (pp : Nat), .int .i64 (pp + 2 : Nat), ptrA Ax ((pp + 2) * 1), .int .u8 ((X.getD (pp + 2) 0).toNat : Nat), .int .i64 ((X.getD (pp + 2) 0).toNat : Nat), .int .i64 (m2 : Nat), .int .i64 (m0 + m1 + m2 : Nat), .slice Ax X.length cx, .int .i64 (pp : Nat), .int .i64 (pp + 3 : Nat), ptrA Ax ((pp + 3) * 1), .int .u8 ((X.getD (pp + 3) 0).toNat : Nat), .int .i64 ((X.getD (pp + 3) 0).toNat : Nat), .int .i64 (m0 + m1 + m2 + (X.getD (pp + 3) 0).toNat : Nat), .int .i64 (m0 + m1 + m2 + (X.getD (pp + 3) 0).toNat : Nat)]) [(2, [], [3, 4, 5, 13, 21, 28]), (3, [2], [4, 5, 13, 21, 28]), (4, [2, 3], [5, 13, 21, 28]), (5, [2, 3, 4], [13, 21, 28]), (8, [], [9, 10, 11, 12, 13, 21, 28]), (9, [8], [10, 11, 12, 13, 21, 28]), (10, [8, 9], [11, 12, 13, 21, 28]), (11, [8, 9, 10], [12, 13, 21, 28]), (12, [8, 9, 10, 11], [13, 21, 28]), (13, [2, 3, 4, 5, 8, 9, 10, 11, 12], [21, 28]), (16, [], [17, 18, 19, 20, 21, 28]), (17, [16], [18, 19, 20, 21, 28]), (18, [16, 17], [19, 20, 21, 28]), (19, [16, 17, 18], [20, 21, 28]), (20, [16, 17, 18, 19], [21, 28]), (21, [2, 3, 4, 5, 8, 9, 10, 11, 12, 13, 16, 17, 18, 19, 20], [28]), (24, [], [25, 26, 27, 28]), (25, [24], [26, 27, 28]), (26, [24, 25], [27, 28]), (27, [24, 25, 26], [28]), (28, [2, 3, 4, 5, 8, 9, 10, 11, 12, 13, 16, 17, 18, 19, 20, 21, 24, 25, 26, 27], [])] () rfl (by kernel_rfl) (by kernel_rfl) F S.drew ?_ ?_ ?_ ?_ ?_
  · rintro ⟨⟩; rfl
  ·
   rintro ⟨⟩
   refine Eq.trans (b := [some (.slice Ax X.length cx), some (.int .i64 (pp : Nat)), none, none, none, none, some (.slice Ax X.length cx), some (.int .i64 (pp : Nat)), none, none, none, none, none, none, some (.slice Ax X.length cx), some (.int .i64 (pp : Nat)), none, none, none, none, none, none, some (.slice Ax X.length cx), some (.int .i64 (pp : Nat)), none, none, none, none, none, some (.int .i64 (m0 + m1 + m2 + (X.getD (pp + 3) 0).toNat : Nat))]) ?_ ?_ <;> kernel_rfl
  ·
   intro D D' x h
   cases x
   rfl
  ·
   refine ⟨?_, ?_⟩
   ·
    refine ⟨_, rfl, rfl, by kernel_rfl, ?_⟩
    rintro D ⟨⟩ a z S F
    refine ⟨by kernel_rfl, ?_⟩
    exact op_index _ 5 _ _ Ax X.length cx pp 1 .i64 F rfl (by kernel_rfl) (by kernel_rfl) (by kernel_rfl) (by kernel_rfl) (get_lt (getD_at (i := pp) (by omega))) (recs_some hX (m := pp) (get_lt (getD_at (i := pp) (by omega)))) (⟨(), rfl, (SameB.refl _ _ rfl), S⟩)
   refine ⟨?_, ?_⟩
   ·
    refine ⟨_, rfl, rfl, by kernel_rfl, ?_⟩
    rintro D ⟨⟩ a z S F
    refine ⟨by kernel_rfl, ?_⟩
    exact op_ldk Ax (pp * 1) (.int .u8 ((X.getD pp 0).toNat : Nat)) F rfl (cOld S 0 yC_len hX rfl 0 (getD_at (i := pp) (by omega)) rfl) (⟨(), rfl, (SameB.refl _ _ rfl), S⟩)
   refine ⟨?_, ?_⟩
   ·
    refine ⟨_, rfl, rfl, by kernel_rfl, ?_⟩
    rintro D ⟨⟩ a z S F
    refine ⟨by kernel_rfl, ?_⟩
    exact op_pk F (v0 := .int .i64 (IntKind.wrap .i64 ((X.getD pp 0).toNat : Nat))) (v := .int .i64 ((X.getD pp 0).toNat : Nat)) (wr_i64 (by omega) (by omega)) ⟨(), rfl, (SameB.refl _ _ rfl), S⟩
   refine ⟨?_, ?_⟩
   ·
    refine ⟨_, rfl, rfl, by kernel_rfl, ?_⟩
    rintro D ⟨⟩ a z S F
    refine ⟨by kernel_rfl, ?_⟩
    exact op_pk F (v0 := .int .i64 (IntKind.wrap .i64 (((X.getD pp 0).toNat : Nat) * 16777216))) (v := .int .i64 (m0 : Nat)) (wrn_i64 (by omega) (by omega) (by omega)) ⟨(), rfl, (SameB.refl _ _ rfl), S⟩
   refine ⟨?_, ?_⟩
   ·
    refine ⟨_, rfl, rfl, by kernel_rfl, ?_⟩
    rintro D ⟨⟩ a z S F
    refine ⟨by kernel_rfl, ?_⟩
    exact op_pk F (v0 := .int .i64 (IntKind.wrap .i64 ((pp : Nat) + 1))) (v := .int .i64 (pp + 1 : Nat)) (wrn_i64 (by omega) (by omega) (by omega)) ⟨(), rfl, (SameB.refl _ _ rfl), S⟩
   refine ⟨?_, ?_⟩
   ·
    refine ⟨_, rfl, rfl, by kernel_rfl, ?_⟩
    rintro D ⟨⟩ a z S F
    refine ⟨by kernel_rfl, ?_⟩
    exact op_index _ 5 _ _ Ax X.length cx (pp + 1) 1 .i64 F rfl (by kernel_rfl) (by kernel_rfl) (by kernel_rfl) (by kernel_rfl) (get_lt (getD_at (i := (pp + 1)) (by omega))) (recs_some hX (m := pp + 1) (get_lt (getD_at (i := (pp + 1)) (by omega)))) (⟨(), rfl, (SameB.refl _ _ rfl), S⟩)
   refine ⟨?_, ?_⟩
   ·
    refine ⟨_, rfl, rfl, by kernel_rfl, ?_⟩
    rintro D ⟨⟩ a z S F
    refine ⟨by kernel_rfl, ?_⟩
    exact op_ldk Ax ((pp + 1) * 1) (.int .u8 ((X.getD (pp + 1) 0).toNat : Nat)) F rfl (cOld S 0 yC_len hX rfl 0 (getD_at (i := (pp + 1)) (by omega)) rfl) (⟨(), rfl, (SameB.refl _ _ rfl), S⟩)
   refine ⟨?_, ?_⟩
   ·
    refine ⟨_, rfl, rfl, by kernel_rfl, ?_⟩
    rintro D ⟨⟩ a z S F
    refine ⟨by kernel_rfl, ?_⟩
    exact op_pk F (v0 := .int .i64 (IntKind.wrap .i64 ((X.getD (pp + 1) 0).toNat : Nat))) (v := .int .i64 ((X.getD (pp + 1) 0).toNat : Nat)) (wr_i64 (by omega) (by omega)) ⟨(), rfl, (SameB.refl _ _ rfl), S⟩
   refine ⟨?_, ?_⟩
   ·
    refine ⟨_, rfl, rfl, by kernel_rfl, ?_⟩
    rintro D ⟨⟩ a z S F
    refine ⟨by kernel_rfl, ?_⟩
    exact op_pk F (v0 := .int .i64 (IntKind.wrap .i64 (((X.getD (pp + 1) 0).toNat : Nat) * 65536))) (v := .int .i64 (m1 : Nat)) (wrn_i64 (by omega) (by omega) (by omega)) ⟨(), rfl, (SameB.refl _ _ rfl), S⟩
   refine ⟨?_, ?_⟩
   ·
    refine ⟨_, rfl, rfl, by kernel_rfl, ?_⟩
    rintro D ⟨⟩ a z S F
    refine ⟨by kernel_rfl, ?_⟩
    exact op_pk F (v0 := .int .i64 (IntKind.wrap .i64 ((m0 : Nat) + (m1 : Nat)))) (v := .int .i64 (m0 + m1 : Nat)) (wrn_i64 (by omega) (by omega) (by omega)) ⟨(), rfl, (SameB.refl _ _ rfl), S⟩
   refine ⟨?_, ?_⟩
   ·
    refine ⟨_, rfl, rfl, by kernel_rfl, ?_⟩
    rintro D ⟨⟩ a z S F
    refine ⟨by kernel_rfl, ?_⟩
    exact op_pk F (v0 := .int .i64 (IntKind.wrap .i64 ((pp : Nat) + 2))) (v := .int .i64 (pp + 2 : Nat)) (wrn_i64 (by omega) (by omega) (by omega)) ⟨(), rfl, (SameB.refl _ _ rfl), S⟩
   refine ⟨?_, ?_⟩
   ·
    refine ⟨_, rfl, rfl, by kernel_rfl, ?_⟩
    rintro D ⟨⟩ a z S F
    refine ⟨by kernel_rfl, ?_⟩
    exact op_index _ 5 _ _ Ax X.length cx (pp + 2) 1 .i64 F rfl (by kernel_rfl) (by kernel_rfl) (by kernel_rfl) (by kernel_rfl) (get_lt (getD_at (i := (pp + 2)) (by omega))) (recs_some hX (m := pp + 2) (get_lt (getD_at (i := (pp + 2)) (by omega)))) (⟨(), rfl, (SameB.refl _ _ rfl), S⟩)
   refine ⟨?_, ?_⟩
   ·
    refine ⟨_, rfl, rfl, by kernel_rfl, ?_⟩
    rintro D ⟨⟩ a z S F
    refine ⟨by kernel_rfl, ?_⟩
    exact op_ldk Ax ((pp + 2) * 1) (.int .u8 ((X.getD (pp + 2) 0).toNat : Nat)) F rfl (cOld S 0 yC_len hX rfl 0 (getD_at (i := (pp + 2)) (by omega)) rfl) (⟨(), rfl, (SameB.refl _ _ rfl), S⟩)
   refine ⟨?_, ?_⟩
   ·
    refine ⟨_, rfl, rfl, by kernel_rfl, ?_⟩
    rintro D ⟨⟩ a z S F
    refine ⟨by kernel_rfl, ?_⟩
    exact op_pk F (v0 := .int .i64 (IntKind.wrap .i64 ((X.getD (pp + 2) 0).toNat : Nat))) (v := .int .i64 ((X.getD (pp + 2) 0).toNat : Nat)) (wr_i64 (by omega) (by omega)) ⟨(), rfl, (SameB.refl _ _ rfl), S⟩
   refine ⟨?_, ?_⟩
   ·
    refine ⟨_, rfl, rfl, by kernel_rfl, ?_⟩
    rintro D ⟨⟩ a z S F
    refine ⟨by kernel_rfl, ?_⟩
    exact op_pk F (v0 := .int .i64 (IntKind.wrap .i64 (((X.getD (pp + 2) 0).toNat : Nat) * 256))) (v := .int .i64 (m2 : Nat)) (wrn_i64 (by omega) (by omega) (by omega)) ⟨(), rfl, (SameB.refl _ _ rfl), S⟩
   refine ⟨?_, ?_⟩
   ·
    refine ⟨_, rfl, rfl, by kernel_rfl, ?_⟩
    rintro D ⟨⟩ a z S F
    refine ⟨by kernel_rfl, ?_⟩
    exact op_pk F (v0 := .int .i64 (IntKind.wrap .i64 ((m0 + m1 : Nat) + (m2 : Nat)))) (v := .int .i64 (m0 + m1 + m2 : Nat)) (wrn_i64 (by omega) (by omega) (by omega)) ⟨(), rfl, (SameB.refl _ _ rfl), S⟩
   refine ⟨?_, ?_⟩
   ·
    refine ⟨_, rfl, rfl, by kernel_rfl, ?_⟩
    rintro D ⟨⟩ a z S F
    refine ⟨by kernel_rfl, ?_⟩
    exact op_pk F (v0 := .int .i64 (IntKind.wrap .i64 ((pp : Nat) + 3))) (v := .int .i64 (pp + 3 : Nat)) (wrn_i64 (by omega) (by omega) (by omega)) ⟨(), rfl, (SameB.refl _ _ rfl), S⟩
   refine ⟨?_, ?_⟩
   ·
    refine ⟨_, rfl, rfl, by kernel_rfl, ?_⟩
    rintro D ⟨⟩ a z S F
    refine ⟨by kernel_rfl, ?_⟩
    exact op_index _ 5 _ _ Ax X.length cx (pp + 3) 1 .i64 F rfl (by kernel_rfl) (by kernel_rfl) (by kernel_rfl) (by kernel_rfl) (get_lt (getD_at (i := (pp + 3)) (by omega))) (recs_some hX (m := pp + 3) (get_lt (getD_at (i := (pp + 3)) (by omega)))) (⟨(), rfl, (SameB.refl _ _ rfl), S⟩)
   refine ⟨?_, ?_⟩
   ·
    refine ⟨_, rfl, rfl, by kernel_rfl, ?_⟩
    rintro D ⟨⟩ a z S F
    refine ⟨by kernel_rfl, ?_⟩
    exact op_ldk Ax ((pp + 3) * 1) (.int .u8 ((X.getD (pp + 3) 0).toNat : Nat)) F rfl (cOld S 0 yC_len hX rfl 0 (getD_at (i := (pp + 3)) (by omega)) rfl) (⟨(), rfl, (SameB.refl _ _ rfl), S⟩)
   refine ⟨?_, ?_⟩
   ·
    refine ⟨_, rfl, rfl, by kernel_rfl, ?_⟩
    rintro D ⟨⟩ a z S F
    refine ⟨by kernel_rfl, ?_⟩
    exact op_pk F (v0 := .int .i64 (IntKind.wrap .i64 ((X.getD (pp + 3) 0).toNat : Nat))) (v := .int .i64 ((X.getD (pp + 3) 0).toNat : Nat)) (wr_i64 (by omega) (by omega)) ⟨(), rfl, (SameB.refl _ _ rfl), S⟩
   refine ⟨?_, ?_⟩
   ·
    refine ⟨_, rfl, rfl, by kernel_rfl, ?_⟩
    rintro D ⟨⟩ a z S F
    refine ⟨by kernel_rfl, ?_⟩
    exact op_pk F (v0 := .int .i64 (IntKind.wrap .i64 ((m0 + m1 + m2 : Nat) + ((X.getD (pp + 3) 0).toNat : Nat)))) (v := .int .i64 (m0 + m1 + m2 + (X.getD (pp + 3) 0).toNat : Nat)) (wrn_i64 (by omega) (by omega) (by omega)) ⟨(), rfl, (SameB.refl _ _ rfl), S⟩
   trivial
  rintro ⟨⟩ a z F S
  have F := F.subk (l := [(0, .slice Ax X.length cx), (5, .int .u32 (lif : Nat)), (6, .bool sl), (7, .slice Aq LL.length cq), (8, .int .i64 (pp : Nat)), (9, .int .i64 (cc : Nat)), (10, .int .i64 (m0 + m1 + m2 + (X.getD (pp + 3) 0).toNat : Nat))])
  have S : Sat w z [rest w (· < w.heap.size), row 100 2 (.slice Aq LL.length cq) LL.length (LL.flatMap nvC)] := S
  have hn9 : m0 + m1 + m2 + (X.getD (pp + 3) 0).toNat = n4p (X.drop pp) := by rw [hm0, hm1, hm2]; exact n_at pp
  obtain ⟨nn, hnn⟩ : ∃ nn, nn = n4p (X.drop pp) := ⟨_, rfl⟩
  rw [← hnn] at hn9
  rw [hn9] at F
  have hN := n4p_lt (X.drop pp)
  rw [← hnn] at hN
  refine then_n ?_
  refine wp_seq ?_
  refine s_reg ?_
  refine l_pk 1 (fun L => (49, .int .i64 (nn : Nat)) :: L) F fun a F => ?_
  by_cases ht8 : ((nn : Nat) : Int) < (2 : Int)
  ·
   refine l_do F rfl rfl (op_pk F (v0 := .bool (decide (((nn : Nat) : Int) < (2 : Int)))) (v := .bool true) (lssT ht8) fun a F => ?_)
   refine l_pk 19 (fun L => (69, .bool true) :: (68, undef) :: (67, undef) :: (66, undef) :: (65, undef) :: (64, undef) :: (63, undef) :: (62, undef) :: (61, undef) :: (60, .bool true) :: (59, .bool true) :: (58, undef) :: (57, undef) :: (56, undef) :: (55, undef) :: (54, undef) :: (53, undef) :: (52, undef) :: (51, .bool true) :: L) F fun a F => ?_
   refine l_then ?_
   refine c_t F rfl ?_
   refine wp_exit ?_
   refine then_x ?_
   refine inb_xo (by kernel_rfl) ?_
   refine then_x ?_
   refine inb_x ?_
   refine then_n ?_
   refine s_reg ?_
   refine l_pk 6 (fun L => (4, .slice Aq LL.length cq) :: (3, .bool sl) :: (2, .int .u32 (lif : Nat)) :: (166, .slice Aq LL.length cq) :: (165, .bool sl) :: (164, .int .u32 (lif : Nat)) :: L) F fun a F => ?_
   refine l_then ?_
   refine wp_ret ?_
   have ht9 := (tellG_none (next_stopN hnn hpl (by first | (left; omega) | (right; left; omega) | (right; right; left; omega) | (right; right; right; left; assumption) | (right; right; right; right; omega)))).symm.trans htg
   exact fin F [.tmp 2, .tmp 3, .tmp 4] [.int .u32 (lif : Nat), .bool sl, .slice Aq LL.length cq] rfl ⟨by kernel_rfl, by kernel_rfl, by kernel_rfl, trivial⟩ (.tuple #[.int .u32 (lif : Nat), .bool sl, .slice Aq LL.length cq]) rfl ⟨Aq, cq, by rw [← ht9], by rw [← ht9]; exact S.pick [0, 1] (by decide)⟩
  refine l_do F rfl rfl (op_pk F (v0 := .bool (decide (((nn : Nat) : Int) < (2 : Int)))) (v := .bool false) (lssF ht8) fun a F => ?_)
  refine l_pk 2 (fun L => (52, .int .i64 (pp : Nat)) :: (51, .bool false) :: L) F fun a F => ?_
  refine l_do F rfl rfl (op_pk F (v0 := .int .i64 (IntKind.wrap .i64 ((pp : Nat) + 4))) (v := .int .i64 (pp + 4 : Nat)) (wrn_i64 (by omega) (by omega) (by omega)) fun a F => ?_)
  refine l_pk 1 (fun L => (54, .int .i64 (nn : Nat)) :: L) F fun a F => ?_
  refine l_do F rfl rfl (op_pk F (v0 := .int .i64 (IntKind.wrap .i64 ((pp + 4 : Nat) + (nn : Nat)))) (v := .int .i64 (pp + 4 + nn : Nat)) (wrn_i64 (by omega) (by omega) (by omega)) fun a F => ?_)
  refine l_pk 2 (fun L => (57, .int .i64 (X.length : Nat)) :: (56, .slice Ax X.length cx) :: L) F fun a F => ?_
  by_cases ht9 : ((X.length : Nat) : Int) ≤ ((pp + 4 + nn : Nat) : Int)
  ·
   refine l_do F rfl rfl (op_pk F (v0 := .bool (decide (((pp + 4 + nn : Nat) : Int) ≥ ((X.length : Nat) : Int)))) (v := .bool true) (geqT ht9) fun a F => ?_)
   refine l_pk 11 (fun L => (69, .bool true) :: (68, undef) :: (67, undef) :: (66, undef) :: (65, undef) :: (64, undef) :: (63, undef) :: (62, undef) :: (61, undef) :: (60, .bool true) :: (59, .bool true) :: L) F fun a F => ?_
   refine l_then ?_
   refine c_t F rfl ?_
   refine wp_exit ?_
   refine then_x ?_
   refine inb_xo (by kernel_rfl) ?_
   refine then_x ?_
   refine inb_x ?_
   refine then_n ?_
   refine s_reg ?_
   refine l_pk 6 (fun L => (4, .slice Aq LL.length cq) :: (3, .bool sl) :: (2, .int .u32 (lif : Nat)) :: (166, .slice Aq LL.length cq) :: (165, .bool sl) :: (164, .int .u32 (lif : Nat)) :: L) F fun a F => ?_
   refine l_then ?_
   refine wp_ret ?_
   have ht9 := (tellG_none (next_stopN hnn hpl (by first | (left; omega) | (right; left; omega) | (right; right; left; omega) | (right; right; right; left; assumption) | (right; right; right; right; omega)))).symm.trans htg
   exact fin F [.tmp 2, .tmp 3, .tmp 4] [.int .u32 (lif : Nat), .bool sl, .slice Aq LL.length cq] rfl ⟨by kernel_rfl, by kernel_rfl, by kernel_rfl, trivial⟩ (.tuple #[.int .u32 (lif : Nat), .bool sl, .slice Aq LL.length cq]) rfl ⟨Aq, cq, by rw [← ht9], by rw [← ht9]; exact S.pick [0, 1] (by decide)⟩
  refine l_do F rfl rfl (op_pk F (v0 := .bool (decide (((pp + 4 + nn : Nat) : Int) ≥ ((X.length : Nat) : Int)))) (v := .bool false) (geqF ht9) fun a F => ?_)
  refine l_pk 4 (fun L => (62, .int .i64 (pp : Nat)) :: (61, .slice Ax X.length cx) :: (60, .bool false) :: (59, .bool false) :: L) F fun a F => ?_
  refine l_do F rfl rfl (op_pk F (v0 := .int .i64 (IntKind.wrap .i64 ((pp : Nat) + 4))) (v := .int .i64 (pp + 4 : Nat)) (wrn_i64 (by omega) (by omega) (by omega)) fun a F => ?_)
  refine l_pk 1 (fun L => (64, .int .i64 (nn : Nat)) :: L) F fun a F => ?_
  refine l_do F rfl rfl (op_pk F (v0 := .int .i64 (IntKind.wrap .i64 ((pp + 4 : Nat) + (nn : Nat)))) (v := .int .i64 (pp + 4 + nn : Nat)) (wrn_i64 (by omega) (by omega) (by omega)) fun a F => ?_)
  refine l_do F rfl rfl (op_index _ 5 _ _ Ax X.length cx (pp + 4 + nn) 1 .i64 F rfl (by kernel_rfl) (by kernel_rfl) (by kernel_rfl) (by kernel_rfl) (by omega) (recs_some hX (m := pp + 4 + nn) (by omega)) (fun a F => ?_))
  refine l_do F rfl rfl (op_ldk Ax ((pp + 4 + nn) * 1) (.int .u8 ((X.getD (pp + 4 + nn) 0).toNat : Nat)) F rfl (cOld S 0 yC_len hX rfl 0 (getD_at (i := (pp + 4 + nn)) (by omega)) rfl) (fun a F => ?_))
  by_cases ht10 : (((X.getD (pp + 4 + nn) 0).toNat : Nat) : Int) = (165 : Int)
  ·
   have h165 : X.getD (pp + 4 + nn) 0 = 165 := UInt8.toNat_inj.1 (by have e9 : (165 : UInt8).toNat = 165 := rfl; omega)
   refine l_do F rfl rfl (op_pk F (v0 := .bool ((((X.getD (pp + 4 + nn) 0).toNat : Nat) : Int) != (165 : Int))) (v := .bool false) (neqF ht10) fun a F => ?_)
   refine l_pk 1 (fun L => (69, .bool false) :: L) F fun a F => ?_
   refine l_then ?_
   refine c_f F rfl ?_
   refine wp_skip ?_
   refine then_n ?_
   refine wp_seq ?_
   refine region_gx (fun D => fun (_ : Unit) => [rest w (· < w.heap.size), row 100 2 (.slice Aq LL.length cq) LL.length (LL.flatMap nvC)]) (fun (_ : Unit) => [.slice Ax X.length cx, .int .i64 (pp : Nat), .int .i64 (pp + 4 : Nat), ptrA Ax ((pp + 4) * 1), .int .u8 ((X.getD (pp + 4) 0).toNat : Nat), .int .i64 ((X.getD (pp + 4) 0).toNat : Nat), .slice Ax X.length cx, .int .i64 (pp : Nat), .int .i64 (pp + 5 : Nat), ptrA Ax ((pp + 5) * 1), .int .u8 ((X.getD (pp + 5) 0).toNat : Nat), .int .i64 ((X.getD (pp + 5) 0).toNat : Nat), .int .i64 ((X.getD (pp + 4) 0).toNat : Nat), .int .i64 ((X.getD (pp + 5) 0).toNat : Nat)]) [(2, [], [3, 4, 5]), (3, [2], [4, 5]), (4, [2, 3], [5]), (5, [2, 3, 4], []), (8, [], [9, 10, 11]), (9, [8], [10, 11]), (10, [8, 9], [11]), (11, [8, 9, 10], [])] () rfl (by kernel_rfl) (by kernel_rfl) F S.drew ?_ ?_ ?_ ?_ ?_
   · rintro ⟨⟩; rfl
   ·
    rintro ⟨⟩
    refine Eq.trans (b := [some (.slice Ax X.length cx), some (.int .i64 (pp : Nat)), none, none, none, none, some (.slice Ax X.length cx), some (.int .i64 (pp : Nat)), none, none, none, none, some (.int .i64 ((X.getD (pp + 4) 0).toNat : Nat)), some (.int .i64 ((X.getD (pp + 5) 0).toNat : Nat))]) ?_ ?_ <;> kernel_rfl
   ·
    intro D D' x h
    cases x
    rfl
   ·
    refine ⟨?_, ?_⟩
    ·
     refine ⟨_, rfl, rfl, by kernel_rfl, ?_⟩
     rintro D ⟨⟩ a z S F
     refine ⟨by kernel_rfl, ?_⟩
     exact op_pk F (v0 := .int .i64 (IntKind.wrap .i64 ((pp : Nat) + 4))) (v := .int .i64 (pp + 4 : Nat)) (wrn_i64 (by omega) (by omega) (by omega)) ⟨(), rfl, (SameB.refl _ _ rfl), S⟩
    refine ⟨?_, ?_⟩
    ·
     refine ⟨_, rfl, rfl, by kernel_rfl, ?_⟩
     rintro D ⟨⟩ a z S F
     refine ⟨by kernel_rfl, ?_⟩
     exact op_index _ 5 _ _ Ax X.length cx (pp + 4) 1 .i64 F rfl (by kernel_rfl) (by kernel_rfl) (by kernel_rfl) (by kernel_rfl) (get_lt (getD_at (i := (pp + 4)) (by omega))) (recs_some hX (m := pp + 4) (get_lt (getD_at (i := (pp + 4)) (by omega)))) (⟨(), rfl, (SameB.refl _ _ rfl), S⟩)
    refine ⟨?_, ?_⟩
    ·
     refine ⟨_, rfl, rfl, by kernel_rfl, ?_⟩
     rintro D ⟨⟩ a z S F
     refine ⟨by kernel_rfl, ?_⟩
     exact op_ldk Ax ((pp + 4) * 1) (.int .u8 ((X.getD (pp + 4) 0).toNat : Nat)) F rfl (cOld S 0 yC_len hX rfl 0 (getD_at (i := (pp + 4)) (by omega)) rfl) (⟨(), rfl, (SameB.refl _ _ rfl), S⟩)
    refine ⟨?_, ?_⟩
    ·
     refine ⟨_, rfl, rfl, by kernel_rfl, ?_⟩
     rintro D ⟨⟩ a z S F
     refine ⟨by kernel_rfl, ?_⟩
     exact op_pk F (v0 := .int .i64 (IntKind.wrap .i64 ((X.getD (pp + 4) 0).toNat : Nat))) (v := .int .i64 ((X.getD (pp + 4) 0).toNat : Nat)) (wr_i64 (by omega) (by omega)) ⟨(), rfl, (SameB.refl _ _ rfl), S⟩
    refine ⟨?_, ?_⟩
    ·
     refine ⟨_, rfl, rfl, by kernel_rfl, ?_⟩
     rintro D ⟨⟩ a z S F
     refine ⟨by kernel_rfl, ?_⟩
     exact op_pk F (v0 := .int .i64 (IntKind.wrap .i64 ((pp : Nat) + 5))) (v := .int .i64 (pp + 5 : Nat)) (wrn_i64 (by omega) (by omega) (by omega)) ⟨(), rfl, (SameB.refl _ _ rfl), S⟩
    refine ⟨?_, ?_⟩
    ·
     refine ⟨_, rfl, rfl, by kernel_rfl, ?_⟩
     rintro D ⟨⟩ a z S F
     refine ⟨by kernel_rfl, ?_⟩
     exact op_index _ 5 _ _ Ax X.length cx (pp + 5) 1 .i64 F rfl (by kernel_rfl) (by kernel_rfl) (by kernel_rfl) (by kernel_rfl) (get_lt (getD_at (i := (pp + 5)) (by omega))) (recs_some hX (m := pp + 5) (get_lt (getD_at (i := (pp + 5)) (by omega)))) (⟨(), rfl, (SameB.refl _ _ rfl), S⟩)
    refine ⟨?_, ?_⟩
    ·
     refine ⟨_, rfl, rfl, by kernel_rfl, ?_⟩
     rintro D ⟨⟩ a z S F
     refine ⟨by kernel_rfl, ?_⟩
     exact op_ldk Ax ((pp + 5) * 1) (.int .u8 ((X.getD (pp + 5) 0).toNat : Nat)) F rfl (cOld S 0 yC_len hX rfl 0 (getD_at (i := (pp + 5)) (by omega)) rfl) (⟨(), rfl, (SameB.refl _ _ rfl), S⟩)
    refine ⟨?_, ?_⟩
    ·
     refine ⟨_, rfl, rfl, by kernel_rfl, ?_⟩
     rintro D ⟨⟩ a z S F
     refine ⟨by kernel_rfl, ?_⟩
     exact op_pk F (v0 := .int .i64 (IntKind.wrap .i64 ((X.getD (pp + 5) 0).toNat : Nat))) (v := .int .i64 ((X.getD (pp + 5) 0).toNat : Nat)) (wr_i64 (by omega) (by omega)) ⟨(), rfl, (SameB.refl _ _ rfl), S⟩
    trivial
   rintro ⟨⟩ a z F S
   have F := F.subk (l := [(0, .slice Ax X.length cx), (5, .int .u32 (lif : Nat)), (6, .bool sl), (7, .slice Aq LL.length cq), (8, .int .i64 (pp : Nat)), (9, .int .i64 (cc : Nat)), (10, .int .i64 (nn : Nat)), (11, .int .i64 ((X.getD (pp + 4) 0).toNat : Nat)), (12, .int .i64 ((X.getD (pp + 5) 0).toNat : Nat))])
   have S : Sat w z [rest w (· < w.heap.size), row 100 2 (.slice Aq LL.length cq) LL.length (LL.flatMap nvC)] := S
   refine then_n ?_
   refine wp_seq ?_
   refine s_reg ?_
   refine l_pk 1 (fun L => (82, .int .i64 ((X.getD (pp + 5) 0).toNat : Nat)) :: L) F fun a F => ?_
   refine l_do F rfl rfl (op_pk F (v0 := .int .i64 (IntKind.wrap .i64 (2 + ((X.getD (pp + 5) 0).toNat : Nat)))) (v := .int .i64 (2 + ((X.getD (pp + 5) 0).toNat) : Nat)) (wrn_i64 (by omega) (by omega) (by omega)) fun a F => ?_)
   refine l_pk 1 (fun L => (84, .int .i64 (nn : Nat)) :: L) F fun a F => ?_
   by_cases ht11 : ((nn : Nat) : Int) < ((2 + ((X.getD (pp + 5) 0).toNat) : Nat) : Int)
   ·
    refine l_do F rfl rfl (op_pk F (v0 := .bool (decide (((2 + ((X.getD (pp + 5) 0).toNat) : Nat) : Int) > ((nn : Nat) : Int)))) (v := .bool true) (gtrT ht11) fun a F => ?_)
    refine l_pk 15 (fun L => (100, .bool true) :: (99, undef) :: (98, undef) :: (97, .bool true) :: (96, .bool true) :: (95, undef) :: (94, undef) :: (93, .bool true) :: (92, .bool true) :: (91, undef) :: (90, undef) :: (89, undef) :: (88, undef) :: (87, undef) :: (86, .bool true) :: L) F fun a F => ?_
    refine l_then ?_
    refine c_t F rfl ?_
    refine wp_exit ?_
    refine then_x ?_
    refine inb_xo (by kernel_rfl) ?_
    refine then_x ?_
    refine inb_x ?_
    refine then_n ?_
    refine s_reg ?_
    refine l_pk 6 (fun L => (4, .slice Aq LL.length cq) :: (3, .bool sl) :: (2, .int .u32 (lif : Nat)) :: (166, .slice Aq LL.length cq) :: (165, .bool sl) :: (164, .int .u32 (lif : Nat)) :: L) F fun a F => ?_
    refine l_then ?_
    refine wp_ret ?_
    have ht9 := (tellG_none (next_stopN hnn hpl (by first | (left; omega) | (right; left; omega) | (right; right; left; omega) | (right; right; right; left; assumption) | (right; right; right; right; omega)))).symm.trans htg
    exact fin F [.tmp 2, .tmp 3, .tmp 4] [.int .u32 (lif : Nat), .bool sl, .slice Aq LL.length cq] rfl ⟨by kernel_rfl, by kernel_rfl, by kernel_rfl, trivial⟩ (.tuple #[.int .u32 (lif : Nat), .bool sl, .slice Aq LL.length cq]) rfl ⟨Aq, cq, by rw [← ht9], by rw [← ht9]; exact S.pick [0, 1] (by decide)⟩
   refine l_do F rfl rfl (op_pk F (v0 := .bool (decide (((2 + ((X.getD (pp + 5) 0).toNat) : Nat) : Int) > ((nn : Nat) : Int)))) (v := .bool false) (gtrF ht11) fun a F => ?_)
   refine l_pk 2 (fun L => (87, .int .i64 (cc : Nat)) :: (86, .bool false) :: L) F fun a F => ?_
   by_cases ht12 : ((cc : Nat) : Int) = (0 : Int)
   ·
    refine l_do F rfl rfl (op_pk F (v0 := .bool (((cc : Nat) : Int) == (0 : Int))) (v := .bool true) (eqlT ht12) fun a F => ?_)
    refine l_pk 1 (fun L => (89, .int .i64 ((X.getD (pp + 4) 0).toNat : Nat)) :: L) F fun a F => ?_
    by_cases ht13 : (((X.getD (pp + 4) 0).toNat : Nat) : Int) = (1 : Int)
    ·
     refine l_do F rfl rfl (op_pk F (v0 := .bool ((((X.getD (pp + 4) 0).toNat : Nat) : Int) == (1 : Int))) (v := .bool true) (eqlT ht13) fun a F => ?_)
     refine l_pk 4 (fun L => (94, .int .i64 ((X.getD (pp + 4) 0).toNat : Nat)) :: (93, .bool false) :: (92, .bool false) :: (91, .bool false) :: L) F fun a F => ?_
     refine l_do F rfl rfl (op_pk F (v0 := .bool (decide ((((X.getD (pp + 4) 0).toNat : Nat) : Int) < (1 : Int)))) (v := .bool false) (lssF (by omega)) fun a F => ?_)
     refine l_pk 3 (fun L => (98, .int .i64 ((X.getD (pp + 4) 0).toNat : Nat)) :: (97, .bool false) :: (96, .bool false) :: L) F fun a F => ?_
     refine l_do F rfl rfl (op_pk F (v0 := .bool (decide ((((X.getD (pp + 4) 0).toNat : Nat) : Int) > (4 : Int)))) (v := .bool false) (gtrF (by omega)) fun a F => ?_)
     refine l_pk 1 (fun L => (100, .bool false) :: L) F fun a F => ?_
     refine l_then ?_
     refine c_f F rfl ?_
     refine wp_skip ?_
     refine then_n ?_
     refine wp_seq ?_
     refine region_gx (fun D => fun (_ : Unit) => [rest w (· < w.heap.size), row 100 2 (.slice Aq LL.length cq) LL.length (LL.flatMap nvC)]) (fun (_ : Unit) => [.slice Ax X.length cx, .int .i64 (pp : Nat), .int .i64 (pp + 6 : Nat), .int .i64 (pp : Nat), .int .i64 (pp + 6 : Nat), .int .i64 ((X.getD (pp + 5) 0).toNat : Nat), .int .i64 (pp + 6 + (X.getD (pp + 5) 0).toNat : Nat), .slice (subA Ax cx (pp + 6) 1) ((pp + 6 + (X.getD (pp + 5) 0).toNat) - (pp + 6)) (cx - (pp + 6)), strV ((X.take (pp + 6 + (X.getD (pp + 5) 0).toNat)).drop (pp + 6)), .slice Ax X.length cx, .int .i64 (pp : Nat), .int .i64 (pp + 6 : Nat), .int .i64 ((X.getD (pp + 5) 0).toNat : Nat), .int .i64 (pp + 6 + (X.getD (pp + 5) 0).toNat : Nat), .int .i64 (pp : Nat), .int .i64 (pp + 4 : Nat), .int .i64 (nn : Nat), .int .i64 (pp + 4 + nn : Nat), .slice (subA Ax cx (pp + 6 + (X.getD (pp + 5) 0).toNat) 1) ((pp + 4 + nn) - (pp + 6 + (X.getD (pp + 5) 0).toNat)) (cx - (pp + 6 + (X.getD (pp + 5) 0).toNat)), strV ((X.take (pp + 4 + nn)).drop (pp + 6 + (X.getD (pp + 5) 0).toNat)), strV ((X.take (pp + 6 + (X.getD (pp + 5) 0).toNat)).drop (pp + 6)), strV ((X.take (pp + 4 + nn)).drop (pp + 6 + (X.getD (pp + 5) 0).toNat))]) [(2, [], [7, 8]), (4, [], [6, 7, 8]), (6, [4], [7, 8]), (7, [2, 4, 6], [8]), (8, [2, 4, 6, 7], []), (11, [], [13, 18, 19]), (13, [11], [18, 19]), (15, [], [17, 18, 19]), (17, [15], [18, 19]), (18, [11, 13, 15, 17], [19]), (19, [11, 13, 15, 17, 18], [])] () rfl (by kernel_rfl) (by kernel_rfl) F S.drew ?_ ?_ ?_ ?_ ?_
     · rintro ⟨⟩; rfl
     ·
      rintro ⟨⟩
      refine Eq.trans (b := [some (.slice Ax X.length cx), some (.int .i64 (pp : Nat)), none, some (.int .i64 (pp : Nat)), none, some (.int .i64 ((X.getD (pp + 5) 0).toNat : Nat)), none, none, none, some (.slice Ax X.length cx), some (.int .i64 (pp : Nat)), none, some (.int .i64 ((X.getD (pp + 5) 0).toNat : Nat)), none, some (.int .i64 (pp : Nat)), none, some (.int .i64 (nn : Nat)), none, none, none, some (strV ((X.take (pp + 6 + (X.getD (pp + 5) 0).toNat)).drop (pp + 6))), some (strV ((X.take (pp + 4 + nn)).drop (pp + 6 + (X.getD (pp + 5) 0).toNat)))]) ?_ ?_ <;> kernel_rfl
     ·
      intro D D' x h
      cases x
      rfl
     ·
      refine ⟨?_, ?_⟩
      ·
       refine ⟨_, rfl, rfl, by kernel_rfl, ?_⟩
       rintro D ⟨⟩ a z S F
       refine ⟨by kernel_rfl, ?_⟩
       exact op_pk F (v0 := .int .i64 (IntKind.wrap .i64 ((pp : Nat) + 6))) (v := .int .i64 (pp + 6 : Nat)) (wrn_i64 (by omega) (by omega) (by omega)) ⟨(), rfl, (SameB.refl _ _ rfl), S⟩
      refine ⟨?_, ?_⟩
      ·
       refine ⟨_, rfl, rfl, by kernel_rfl, ?_⟩
       rintro D ⟨⟩ a z S F
       refine ⟨by kernel_rfl, ?_⟩
       exact op_pk F (v0 := .int .i64 (IntKind.wrap .i64 ((pp : Nat) + 6))) (v := .int .i64 (pp + 6 : Nat)) (wrn_i64 (by omega) (by omega) (by omega)) ⟨(), rfl, (SameB.refl _ _ rfl), S⟩
      refine ⟨?_, ?_⟩
      ·
       refine ⟨_, rfl, rfl, by kernel_rfl, ?_⟩
       rintro D ⟨⟩ a z S F
       refine ⟨by kernel_rfl, ?_⟩
       exact op_pk F (v0 := .int .i64 (IntKind.wrap .i64 ((pp + 6 : Nat) + ((X.getD (pp + 5) 0).toNat : Nat)))) (v := .int .i64 (pp + 6 + (X.getD (pp + 5) 0).toNat : Nat)) (wrn_i64 (by omega) (by omega) (by omega)) ⟨(), rfl, (SameB.refl _ _ rfl), S⟩
      refine ⟨?_, ?_⟩
      ·
       refine ⟨_, rfl, rfl, by kernel_rfl, ?_⟩
       rintro D ⟨⟩ a z S F
       refine ⟨by kernel_rfl, ?_⟩
       exact op_sliceLH _ 5 _ _ _ Ax X.length cx (pp + 6) (pp + 6 + (X.getD (pp + 5) 0).toNat) 1 .i64 .i64 F rfl (by kernel_rfl) (by kernel_rfl) (by kernel_rfl) (by kernel_rfl) (by kernel_rfl) (by omega) (by omega) (⟨(), rfl, (SameB.refl _ _ rfl), S⟩)
      refine ⟨?_, ?_⟩
      ·
       refine ⟨_, rfl, rfl, by kernel_rfl, ?_⟩
       rintro D ⟨⟩ a z S F
       refine ⟨by kernel_rfl, ?_⟩
       exact op_tostrN (N := (pp + 6 + (X.getD (pp + 5) 0).toNat) - (pp + 6)) (Recs.drop (Recs.take (hX.mono (src_rest S (i := 0) rfl hX.src (src_lt hX.src))) (pp + 6 + (X.getD (pp + 5) 0).toNat)) (pp + 6) (Nat.le_trans (List.length_take_le _ _) (by first | omega | (simp only [List.length_drop, List.length_take]; omega)))) (by simp only [List.length_drop, List.length_take]; omega) _ 5 _ _ F rfl (by kernel_rfl) (by kernel_rfl) (by kernel_rfl) (by kernel_rfl) (⟨(), rfl, (SameB.refl _ _ rfl), S⟩)
      refine ⟨?_, ?_⟩
      ·
       refine ⟨_, rfl, rfl, by kernel_rfl, ?_⟩
       rintro D ⟨⟩ a z S F
       refine ⟨by kernel_rfl, ?_⟩
       exact op_pk F (v0 := .int .i64 (IntKind.wrap .i64 ((pp : Nat) + 6))) (v := .int .i64 (pp + 6 : Nat)) (wrn_i64 (by omega) (by omega) (by omega)) ⟨(), rfl, (SameB.refl _ _ rfl), S⟩
      refine ⟨?_, ?_⟩
      ·
       refine ⟨_, rfl, rfl, by kernel_rfl, ?_⟩
       rintro D ⟨⟩ a z S F
       refine ⟨by kernel_rfl, ?_⟩
       exact op_pk F (v0 := .int .i64 (IntKind.wrap .i64 ((pp + 6 : Nat) + ((X.getD (pp + 5) 0).toNat : Nat)))) (v := .int .i64 (pp + 6 + (X.getD (pp + 5) 0).toNat : Nat)) (wrn_i64 (by omega) (by omega) (by omega)) ⟨(), rfl, (SameB.refl _ _ rfl), S⟩
      refine ⟨?_, ?_⟩
      ·
       refine ⟨_, rfl, rfl, by kernel_rfl, ?_⟩
       rintro D ⟨⟩ a z S F
       refine ⟨by kernel_rfl, ?_⟩
       exact op_pk F (v0 := .int .i64 (IntKind.wrap .i64 ((pp : Nat) + 4))) (v := .int .i64 (pp + 4 : Nat)) (wrn_i64 (by omega) (by omega) (by omega)) ⟨(), rfl, (SameB.refl _ _ rfl), S⟩
      refine ⟨?_, ?_⟩
      ·
       refine ⟨_, rfl, rfl, by kernel_rfl, ?_⟩
       rintro D ⟨⟩ a z S F
       refine ⟨by kernel_rfl, ?_⟩
       exact op_pk F (v0 := .int .i64 (IntKind.wrap .i64 ((pp + 4 : Nat) + (nn : Nat)))) (v := .int .i64 (pp + 4 + nn : Nat)) (wrn_i64 (by omega) (by omega) (by omega)) ⟨(), rfl, (SameB.refl _ _ rfl), S⟩
      refine ⟨?_, ?_⟩
      ·
       refine ⟨_, rfl, rfl, by kernel_rfl, ?_⟩
       rintro D ⟨⟩ a z S F
       refine ⟨by kernel_rfl, ?_⟩
       exact op_sliceLH _ 5 _ _ _ Ax X.length cx (pp + 6 + (X.getD (pp + 5) 0).toNat) (pp + 4 + nn) 1 .i64 .i64 F rfl (by kernel_rfl) (by kernel_rfl) (by kernel_rfl) (by kernel_rfl) (by kernel_rfl) (by omega) (by omega) (⟨(), rfl, (SameB.refl _ _ rfl), S⟩)
      refine ⟨?_, ?_⟩
      ·
       refine ⟨_, rfl, rfl, by kernel_rfl, ?_⟩
       rintro D ⟨⟩ a z S F
       refine ⟨by kernel_rfl, ?_⟩
       exact op_tostrN (N := (pp + 4 + nn) - (pp + 6 + (X.getD (pp + 5) 0).toNat)) (Recs.drop (Recs.take (hX.mono (src_rest S (i := 0) rfl hX.src (src_lt hX.src))) (pp + 4 + nn)) (pp + 6 + (X.getD (pp + 5) 0).toNat) (Nat.le_trans (List.length_take_le _ _) (by first | omega | (simp only [List.length_drop, List.length_take]; omega)))) (by simp only [List.length_drop, List.length_take]; omega) _ 5 _ _ F rfl (by kernel_rfl) (by kernel_rfl) (by kernel_rfl) (by kernel_rfl) (⟨(), rfl, (SameB.refl _ _ rfl), S⟩)
      trivial
     rintro ⟨⟩ a z F S
     have F := F.subk (l := [(0, .slice Ax X.length cx), (5, .int .u32 (lif : Nat)), (6, .bool sl), (7, .slice Aq LL.length cq), (8, .int .i64 (pp : Nat)), (9, .int .i64 (cc : Nat)), (10, .int .i64 (nn : Nat)), (11, .int .i64 ((X.getD (pp + 4) 0).toNat : Nat)), (13, strV ((X.take (pp + 6 + (X.getD (pp + 5) 0).toNat)).drop (pp + 6))), (14, strV ((X.take (pp + 4 + nn)).drop (pp + 6 + (X.getD (pp + 5) 0).toNat)))])
     have S : Sat w z [rest w (· < w.heap.size), row 100 2 (.slice Aq LL.length cq) LL.length (LL.flatMap nvC)] := S
     obtain ⟨nm, hnm⟩ : ∃ nm, nm = ((X.take (pp + 6 + (X.getD (pp + 5) 0).toNat)).drop (pp + 6)) := ⟨_, rfl⟩
     obtain ⟨vl, hvl⟩ : ∃ vl, vl = ((X.take (pp + 4 + nn)).drop (pp + 6 + (X.getD (pp + 5) 0).toNat)) := ⟨_, rfl⟩
     rw [← hnm, ← hvl] at F
     have hnx := next_atN hnn (by omega) (by omega) (by omega) h165 (by omega) hnm hvl
     obtain ⟨hq1, hq2, hq3⟩ := next_shorter hnx
     have hq0 : (X.drop pp).length = X.length - pp := List.length_drop
     refine then_n ?_
     refine wp_seq ?_
     refine s_reg ?_
     refine l_pk 1 (fun L => (121, .int .i64 ((X.getD (pp + 4) 0).toNat : Nat)) :: L) F fun a F => ?_
     refine l_do F rfl rfl (op_pk F (v0 := .bool ((((X.getD (pp + 4) 0).toNat : Nat) : Int) == (1 : Int))) (v := .bool true) (eqlT ht13) fun a F => ?_)
     refine l_then ?_
     refine c_t F rfl ?_
     refine wp_seq ?_
     refine s_reg ?_
     refine l_pk 1 (fun L => (123, strV vl) :: L) F fun a F => ?_
     refine l_do F rfl rfl (op_strlen _ _ vl F rfl (by kernel_rfl) (by kernel_rfl) (fun a F => ?_))
     by_cases ht14 : ((vl.length : Nat) : Int) = (4 : Int)
     ·
      have hv4 : vl.length = 4 := by omega
      have hvb0 := (vl.getD 0 0).toNat_lt
      have hvb1 := (vl.getD 1 0).toNat_lt
      have hvb2 := (vl.getD 2 0).toNat_lt
      have hvb3 := (vl.getD 3 0).toNat_lt
      obtain ⟨k0, hk0⟩ : ∃ q : Nat, q = (vl.getD 0 0).toNat * 16777216 := ⟨_, rfl⟩
      obtain ⟨k1, hk1⟩ : ∃ q : Nat, q = (vl.getD 1 0).toNat * 65536 := ⟨_, rfl⟩
      obtain ⟨k2, hk2⟩ : ∃ q : Nat, q = (vl.getD 2 0).toNat * 256 := ⟨_, rfl⟩
      refine l_do F rfl rfl (op_pk F (v0 := .bool (((vl.length : Nat) : Int) != (4 : Int))) (v := .bool false) (neqF ht14) fun a F => ?_)
      refine l_then ?_
      refine c_f F rfl ?_
      refine wp_skip ?_
      refine then_n ?_
      refine region_gx (fun D => fun (_ : Unit) => [rest w (· < w.heap.size), row 100 2 (.slice Aq LL.length cq) LL.length (LL.flatMap nvC)]) (fun (_ : Unit) => [strV vl, .int .u8 ((vl.getD 0 0).toNat : Nat), .int .u32 ((vl.getD 0 0).toNat : Nat), .int .u32 (k0 : Nat), strV vl, .int .u8 ((vl.getD 1 0).toNat : Nat), .int .u32 ((vl.getD 1 0).toNat : Nat), .int .u32 (k1 : Nat), .int .u32 (k0 + k1 : Nat), strV vl, .int .u8 ((vl.getD 2 0).toNat : Nat), .int .u32 ((vl.getD 2 0).toNat : Nat), .int .u32 (k2 : Nat), .int .u32 (k0 + k1 + k2 : Nat), strV vl, .int .u8 ((vl.getD 3 0).toNat : Nat), .int .u32 ((vl.getD 3 0).toNat : Nat), .int .u32 (k0 + k1 + k2 + (vl.getD 3 0).toNat : Nat), .int .u32 (k0 + k1 + k2 + (vl.getD 3 0).toNat : Nat)]) [(1, [], [2, 3, 8, 13, 17]), (2, [1], [3, 8, 13, 17]), (3, [1, 2], [8, 13, 17]), (5, [], [6, 7, 8, 13, 17]), (6, [5], [7, 8, 13, 17]), (7, [5, 6], [8, 13, 17]), (8, [1, 2, 3, 5, 6, 7], [13, 17]), (10, [], [11, 12, 13, 17]), (11, [10], [12, 13, 17]), (12, [10, 11], [13, 17]), (13, [1, 2, 3, 5, 6, 7, 8, 10, 11, 12], [17]), (15, [], [16, 17]), (16, [15], [17]), (17, [1, 2, 3, 5, 6, 7, 8, 10, 11, 12, 13, 15, 16], [])] () rfl (by kernel_rfl) (by kernel_rfl) F S.drew ?_ ?_ ?_ ?_ ?_
      · rintro ⟨⟩; rfl
      ·
       rintro ⟨⟩
       refine Eq.trans (b := [some (strV vl), none, none, none, some (strV vl), none, none, none, none, some (strV vl), none, none, none, none, some (strV vl), none, none, none, some (.int .u32 (k0 + k1 + k2 + (vl.getD 3 0).toNat : Nat))]) ?_ ?_ <;> kernel_rfl
      ·
       intro D D' x h
       cases x
       rfl
      ·
       refine ⟨?_, ?_⟩
       ·
        refine ⟨_, rfl, rfl, by kernel_rfl, ?_⟩
        rintro D ⟨⟩ a z S F
        refine ⟨by kernel_rfl, ?_⟩
        exact op_sindex _ _ _ vl 0 (vl.getD 0 0) F rfl (by kernel_rfl) (by kernel_rfl) (by kernel_rfl) (getD_at (by omega)) (⟨(), rfl, (SameB.refl _ _ rfl), S⟩)
       refine ⟨?_, ?_⟩
       ·
        refine ⟨_, rfl, rfl, by kernel_rfl, ?_⟩
        rintro D ⟨⟩ a z S F
        refine ⟨by kernel_rfl, ?_⟩
        exact op_pk F (v0 := .int .u32 (IntKind.wrap .u32 ((vl.getD 0 0).toNat : Nat))) (v := .int .u32 ((vl.getD 0 0).toNat : Nat)) (wr_u32 (by omega) (by omega)) ⟨(), rfl, (SameB.refl _ _ rfl), S⟩
       refine ⟨?_, ?_⟩
       ·
        refine ⟨_, rfl, rfl, by kernel_rfl, ?_⟩
        rintro D ⟨⟩ a z S F
        refine ⟨by kernel_rfl, ?_⟩
        exact op_pk F (v0 := .int .u32 (IntKind.wrap .u32 (((vl.getD 0 0).toNat : Nat) * 16777216))) (v := .int .u32 (k0 : Nat)) (wrn_u32 (by omega) (by omega) (by omega)) ⟨(), rfl, (SameB.refl _ _ rfl), S⟩
       refine ⟨?_, ?_⟩
       ·
        refine ⟨_, rfl, rfl, by kernel_rfl, ?_⟩
        rintro D ⟨⟩ a z S F
        refine ⟨by kernel_rfl, ?_⟩
        exact op_sindex _ _ _ vl 1 (vl.getD 1 0) F rfl (by kernel_rfl) (by kernel_rfl) (by kernel_rfl) (getD_at (by omega)) (⟨(), rfl, (SameB.refl _ _ rfl), S⟩)
       refine ⟨?_, ?_⟩
       ·
        refine ⟨_, rfl, rfl, by kernel_rfl, ?_⟩
        rintro D ⟨⟩ a z S F
        refine ⟨by kernel_rfl, ?_⟩
        exact op_pk F (v0 := .int .u32 (IntKind.wrap .u32 ((vl.getD 1 0).toNat : Nat))) (v := .int .u32 ((vl.getD 1 0).toNat : Nat)) (wr_u32 (by omega) (by omega)) ⟨(), rfl, (SameB.refl _ _ rfl), S⟩
       refine ⟨?_, ?_⟩
       ·
        refine ⟨_, rfl, rfl, by kernel_rfl, ?_⟩
        rintro D ⟨⟩ a z S F
        refine ⟨by kernel_rfl, ?_⟩
        exact op_pk F (v0 := .int .u32 (IntKind.wrap .u32 (((vl.getD 1 0).toNat : Nat) * 65536))) (v := .int .u32 (k1 : Nat)) (wrn_u32 (by omega) (by omega) (by omega)) ⟨(), rfl, (SameB.refl _ _ rfl), S⟩
       refine ⟨?_, ?_⟩
       ·
        refine ⟨_, rfl, rfl, by kernel_rfl, ?_⟩
        rintro D ⟨⟩ a z S F
        refine ⟨by kernel_rfl, ?_⟩
        exact op_pk F (v0 := .int .u32 (IntKind.wrap .u32 ((k0 : Nat) + (k1 : Nat)))) (v := .int .u32 (k0 + k1 : Nat)) (wrn_u32 (by omega) (by omega) (by omega)) ⟨(), rfl, (SameB.refl _ _ rfl), S⟩
       refine ⟨?_, ?_⟩
       ·
        refine ⟨_, rfl, rfl, by kernel_rfl, ?_⟩
        rintro D ⟨⟩ a z S F
        refine ⟨by kernel_rfl, ?_⟩
        exact op_sindex _ _ _ vl 2 (vl.getD 2 0) F rfl (by kernel_rfl) (by kernel_rfl) (by kernel_rfl) (getD_at (by omega)) (⟨(), rfl, (SameB.refl _ _ rfl), S⟩)
       refine ⟨?_, ?_⟩
       ·
        refine ⟨_, rfl, rfl, by kernel_rfl, ?_⟩
        rintro D ⟨⟩ a z S F
        refine ⟨by kernel_rfl, ?_⟩
        exact op_pk F (v0 := .int .u32 (IntKind.wrap .u32 ((vl.getD 2 0).toNat : Nat))) (v := .int .u32 ((vl.getD 2 0).toNat : Nat)) (wr_u32 (by omega) (by omega)) ⟨(), rfl, (SameB.refl _ _ rfl), S⟩
       refine ⟨?_, ?_⟩
       ·
        refine ⟨_, rfl, rfl, by kernel_rfl, ?_⟩
        rintro D ⟨⟩ a z S F
        refine ⟨by kernel_rfl, ?_⟩
        exact op_pk F (v0 := .int .u32 (IntKind.wrap .u32 (((vl.getD 2 0).toNat : Nat) * 256))) (v := .int .u32 (k2 : Nat)) (wrn_u32 (by omega) (by omega) (by omega)) ⟨(), rfl, (SameB.refl _ _ rfl), S⟩
       refine ⟨?_, ?_⟩
       ·
        refine ⟨_, rfl, rfl, by kernel_rfl, ?_⟩
        rintro D ⟨⟩ a z S F
        refine ⟨by kernel_rfl, ?_⟩
        exact op_pk F (v0 := .int .u32 (IntKind.wrap .u32 ((k0 + k1 : Nat) + (k2 : Nat)))) (v := .int .u32 (k0 + k1 + k2 : Nat)) (wrn_u32 (by omega) (by omega) (by omega)) ⟨(), rfl, (SameB.refl _ _ rfl), S⟩
       refine ⟨?_, ?_⟩
       ·
        refine ⟨_, rfl, rfl, by kernel_rfl, ?_⟩
        rintro D ⟨⟩ a z S F
        refine ⟨by kernel_rfl, ?_⟩
        exact op_sindex _ _ _ vl 3 (vl.getD 3 0) F rfl (by kernel_rfl) (by kernel_rfl) (by kernel_rfl) (getD_at (by omega)) (⟨(), rfl, (SameB.refl _ _ rfl), S⟩)
       refine ⟨?_, ?_⟩
       ·
        refine ⟨_, rfl, rfl, by kernel_rfl, ?_⟩
        rintro D ⟨⟩ a z S F
        refine ⟨by kernel_rfl, ?_⟩
        exact op_pk F (v0 := .int .u32 (IntKind.wrap .u32 ((vl.getD 3 0).toNat : Nat))) (v := .int .u32 ((vl.getD 3 0).toNat : Nat)) (wr_u32 (by omega) (by omega)) ⟨(), rfl, (SameB.refl _ _ rfl), S⟩
       refine ⟨?_, ?_⟩
       ·
        refine ⟨_, rfl, rfl, by kernel_rfl, ?_⟩
        rintro D ⟨⟩ a z S F
        refine ⟨by kernel_rfl, ?_⟩
        exact op_pk F (v0 := .int .u32 (IntKind.wrap .u32 ((k0 + k1 + k2 : Nat) + ((vl.getD 3 0).toNat : Nat)))) (v := .int .u32 (k0 + k1 + k2 + (vl.getD 3 0).toNat : Nat)) (wrn_u32 (by omega) (by omega) (by omega)) ⟨(), rfl, (SameB.refl _ _ rfl), S⟩
       trivial
      rintro ⟨⟩ a z F S
      have F := F.subk (l := [(0, .slice Ax X.length cx), (5, .int .u32 (k0 + k1 + k2 + (vl.getD 3 0).toNat : Nat)), (6, .bool sl), (7, .slice Aq LL.length cq), (8, .int .i64 (pp : Nat)), (9, .int .i64 (cc : Nat)), (10, .int .i64 (nn : Nat)), (11, .int .i64 ((X.getD (pp + 4) 0).toNat : Nat)), (13, strV nm), (14, strV vl)])
      have S : Sat w z [rest w (· < w.heap.size), row 100 2 (.slice Aq LL.length cq) LL.length (LL.flatMap nvC)] := S
      have hn8 : k0 + k1 + k2 + (vl.getD 3 0).toNat = n4p vl := by rw [hk0, hk1, hk2]; exact n_four _
      rw [hn8] at F
      have hN8 := n4p_lt vl
      refine then_n ?_
      refine wp_seq ?_
      refine s_reg ?_
      refine l_pk 1 (fun L => (144, .int .i64 ((X.getD (pp + 4) 0).toNat : Nat)) :: L) F fun a F => ?_
      refine l_do F rfl rfl (op_pk F (v0 := .bool ((((X.getD (pp + 4) 0).toNat : Nat) : Int) == (2 : Int))) (v := .bool false) (eqlF (by omega)) fun a F => ?_)
      refine l_then ?_
      refine c_f F rfl ?_
      refine wp_skip ?_
      refine then_n ?_
      refine wp_seq ?_
      refine s_reg ?_
      refine l_pk 1 (fun L => (151, .int .i64 ((X.getD (pp + 4) 0).toNat : Nat)) :: L) F fun a F => ?_
      refine l_do F rfl rfl (op_pk F (v0 := .bool ((((X.getD (pp + 4) 0).toNat : Nat) : Int) == (3 : Int))) (v := .bool false) (eqlF (by omega)) fun a F => ?_)
      refine l_then ?_
      refine c_f F rfl ?_
      refine wp_skip ?_
      refine then_n ?_
      refine wp_seq ?_
      refine s_reg ?_
      refine l_pk 1 (fun L => (156, .int .i64 ((X.getD (pp + 4) 0).toNat : Nat)) :: L) F fun a F => ?_
      refine l_do F rfl rfl (op_pk F (v0 := .bool ((((X.getD (pp + 4) 0).toNat : Nat) : Int) == (4 : Int))) (v := .bool false) (eqlF (by omega)) fun a F => ?_)
      refine l_then ?_
      refine c_f F rfl ?_
      refine wp_skip ?_
      refine then_n ?_
      refine s_reg ?_
      refine l_pk 1 (fun L => (158, .int .i64 (pp : Nat)) :: L) F fun a F => ?_
      refine l_do F rfl rfl (op_pk F (v0 := .int .i64 (IntKind.wrap .i64 ((pp : Nat) + 5))) (v := .int .i64 (pp + 5 : Nat)) (wrn_i64 (by omega) (by omega) (by omega)) fun a F => ?_)
      refine l_pk 1 (fun L => (160, .int .i64 (nn : Nat)) :: L) F fun a F => ?_
      refine l_do F rfl rfl (op_pk F (v0 := .int .i64 (IntKind.wrap .i64 ((pp + 5 : Nat) + (nn : Nat)))) (v := .int .i64 (pp + 5 + nn : Nat)) (wrn_i64 (by omega) (by omega) (by omega)) fun a F => ?_)
      refine l_pk 1 (fun L => (8, .int .i64 (pp + 5 + nn : Nat)) :: L) F fun a F => ?_
      refine l_then ?_
      refine wp_region_list ?_
      refine l_pk 1 (fun L => (162, .int .i64 (cc : Nat)) :: L) F fun a F => ?_
      refine l_do F rfl rfl (op_pk F (v0 := .int .i64 (IntKind.wrap .i64 ((cc : Nat) + 1))) (v := .int .i64 (cc + 1 : Nat)) (wrn_i64 (by omega) (by omega) (by omega)) fun a F => ?_)
      refine l_pk 1 (fun L => (9, .int .i64 (cc + 1 : Nat)) :: L) F fun a F => ?_
      refine l_nil (inb_n ?_)
      refine then_n ?_
      rw [show decide (cc = 0) = true from decide_eq_true (by omega)] at htg
      have hg9 := (tg_begin hnx ht13 (by omega)).symm.trans htg
      exact ⟨_, (by omega), (pp + 5 + nn), (cc + 1), (n4p vl), sl, LL, Aq, cq, rfl, (by omega), (by rw [show decide (cc + 1 = 0) = false from decide_eq_false (by omega)]; exact hg9), hri, (by omega), (by omega), (by omega), F.subk, S⟩
     refine l_do F rfl rfl (op_pk F (v0 := .bool (((vl.length : Nat) : Int) != (4 : Int))) (v := .bool true) (neqT ht14) fun a F => ?_)
     refine l_then ?_
     refine c_t F rfl ?_
     refine wp_exit ?_
     refine then_x ?_
     refine then_x ?_
     refine inb_xo (by kernel_rfl) ?_
     refine then_x ?_
     refine inb_x ?_
     refine then_n ?_
     refine s_reg ?_
     refine l_pk 6 (fun L => (4, .slice Aq LL.length cq) :: (3, .bool sl) :: (2, .int .u32 (lif : Nat)) :: (166, .slice Aq LL.length cq) :: (165, .bool sl) :: (164, .int .u32 (lif : Nat)) :: L) F fun a F => ?_
     refine l_then ?_
     refine wp_ret ?_
     rw [show decide (cc = 0) = true from decide_eq_true (by omega)] at htg
     have ht9 := (tg_short hnx ht13 ht14).symm.trans htg
     exact fin F [.tmp 2, .tmp 3, .tmp 4] [.int .u32 (lif : Nat), .bool sl, .slice Aq LL.length cq] rfl ⟨by kernel_rfl, by kernel_rfl, by kernel_rfl, trivial⟩ (.tuple #[.int .u32 (lif : Nat), .bool sl, .slice Aq LL.length cq]) rfl ⟨Aq, cq, by rw [← ht9], by rw [← ht9]; exact S.pick [0, 1] (by decide)⟩
    refine l_do F rfl rfl (op_pk F (v0 := .bool ((((X.getD (pp + 4) 0).toNat : Nat) : Int) == (1 : Int))) (v := .bool false) (eqlF ht13) fun a F => ?_)
    refine l_pk 10 (fun L => (100, .bool true) :: (99, undef) :: (98, undef) :: (97, .bool true) :: (96, .bool true) :: (95, undef) :: (94, undef) :: (93, .bool true) :: (92, .bool true) :: (91, .bool true) :: L) F fun a F => ?_
    refine l_then ?_
    refine c_t F rfl ?_
    refine wp_exit ?_
    refine then_x ?_
    refine inb_xo (by kernel_rfl) ?_
    refine then_x ?_
    refine inb_x ?_
    refine then_n ?_
    refine s_reg ?_
    refine l_pk 6 (fun L => (4, .slice Aq LL.length cq) :: (3, .bool sl) :: (2, .int .u32 (lif : Nat)) :: (166, .slice Aq LL.length cq) :: (165, .bool sl) :: (164, .int .u32 (lif : Nat)) :: L) F fun a F => ?_
    refine l_then ?_
    refine wp_ret ?_
    rw [show decide (cc = 0) = true from decide_eq_true (by omega)] at htg
    have hnx := next_atN hnn (by omega) (by omega) (by omega) h165 (by omega) rfl rfl
    have ht9 := (tg_first_t hnx ht13).symm.trans htg
    exact fin F [.tmp 2, .tmp 3, .tmp 4] [.int .u32 (lif : Nat), .bool sl, .slice Aq LL.length cq] rfl ⟨by kernel_rfl, by kernel_rfl, by kernel_rfl, trivial⟩ (.tuple #[.int .u32 (lif : Nat), .bool sl, .slice Aq LL.length cq]) rfl ⟨Aq, cq, by rw [← ht9], by rw [← ht9]; exact S.pick [0, 1] (by decide)⟩
   refine l_do F rfl rfl (op_pk F (v0 := .bool (((cc : Nat) : Int) == (0 : Int))) (v := .bool false) (eqlF ht12) fun a F => ?_)
   refine l_pk 1 (fun L => (89, .int .i64 ((X.getD (pp + 4) 0).toNat : Nat)) :: L) F fun a F => ?_
   by_cases ht15 : (((X.getD (pp + 4) 0).toNat : Nat) : Int) = (1 : Int)
   ·
    refine l_do F rfl rfl (op_pk F (v0 := .bool ((((X.getD (pp + 4) 0).toNat : Nat) : Int) == (1 : Int))) (v := .bool true) (eqlT ht15) fun a F => ?_)
    refine l_pk 10 (fun L => (100, .bool true) :: (99, undef) :: (98, undef) :: (97, .bool true) :: (96, .bool true) :: (95, undef) :: (94, undef) :: (93, .bool true) :: (92, .bool true) :: (91, .bool true) :: L) F fun a F => ?_
    refine l_then ?_
    refine c_t F rfl ?_
    refine wp_exit ?_
    refine then_x ?_
    refine inb_xo (by kernel_rfl) ?_
    refine then_x ?_
    refine inb_x ?_
    refine then_n ?_
    refine s_reg ?_
    refine l_pk 6 (fun L => (4, .slice Aq LL.length cq) :: (3, .bool sl) :: (2, .int .u32 (lif : Nat)) :: (166, .slice Aq LL.length cq) :: (165, .bool sl) :: (164, .int .u32 (lif : Nat)) :: L) F fun a F => ?_
    refine l_then ?_
    refine wp_ret ?_
    rw [show decide (cc = 0) = false from decide_eq_false (by omega)] at htg
    have hnx := next_atN hnn (by omega) (by omega) (by omega) h165 (by omega) rfl rfl
    have ht9 := (tg_first_f hnx ht15).symm.trans htg
    exact fin F [.tmp 2, .tmp 3, .tmp 4] [.int .u32 (lif : Nat), .bool sl, .slice Aq LL.length cq] rfl ⟨by kernel_rfl, by kernel_rfl, by kernel_rfl, trivial⟩ (.tuple #[.int .u32 (lif : Nat), .bool sl, .slice Aq LL.length cq]) rfl ⟨Aq, cq, by rw [← ht9], by rw [← ht9]; exact S.pick [0, 1] (by decide)⟩
   refine l_do F rfl rfl (op_pk F (v0 := .bool ((((X.getD (pp + 4) 0).toNat : Nat) : Int) == (1 : Int))) (v := .bool false) (eqlF ht15) fun a F => ?_)
   refine l_pk 4 (fun L => (94, .int .i64 ((X.getD (pp + 4) 0).toNat : Nat)) :: (93, .bool false) :: (92, .bool false) :: (91, .bool false) :: L) F fun a F => ?_
   by_cases ht16 : (((X.getD (pp + 4) 0).toNat : Nat) : Int) < (1 : Int)
   ·
    refine l_do F rfl rfl (op_pk F (v0 := .bool (decide ((((X.getD (pp + 4) 0).toNat : Nat) : Int) < (1 : Int)))) (v := .bool true) (lssT ht16) fun a F => ?_)
    refine l_pk 5 (fun L => (100, .bool true) :: (99, undef) :: (98, undef) :: (97, .bool true) :: (96, .bool true) :: L) F fun a F => ?_
    refine l_then ?_
    refine c_t F rfl ?_
    refine wp_exit ?_
    refine then_x ?_
    refine inb_xo (by kernel_rfl) ?_
    refine then_x ?_
    refine inb_x ?_
    refine then_n ?_
    refine s_reg ?_
    refine l_pk 6 (fun L => (4, .slice Aq LL.length cq) :: (3, .bool sl) :: (2, .int .u32 (lif : Nat)) :: (166, .slice Aq LL.length cq) :: (165, .bool sl) :: (164, .int .u32 (lif : Nat)) :: L) F fun a F => ?_
    refine l_then ?_
    refine wp_ret ?_
    rw [show decide (cc = 0) = false from decide_eq_false (by omega)] at htg
    have hnx := next_atN hnn (by omega) (by omega) (by omega) h165 (by omega) rfl rfl
    have ht9 := (tg_other hnx ht15 (by omega) (by omega) (by omega)).symm.trans htg
    exact fin F [.tmp 2, .tmp 3, .tmp 4] [.int .u32 (lif : Nat), .bool sl, .slice Aq LL.length cq] rfl ⟨by kernel_rfl, by kernel_rfl, by kernel_rfl, trivial⟩ (.tuple #[.int .u32 (lif : Nat), .bool sl, .slice Aq LL.length cq]) rfl ⟨Aq, cq, by rw [← ht9], by rw [← ht9]; exact S.pick [0, 1] (by decide)⟩
   refine l_do F rfl rfl (op_pk F (v0 := .bool (decide ((((X.getD (pp + 4) 0).toNat : Nat) : Int) < (1 : Int)))) (v := .bool false) (lssF ht16) fun a F => ?_)
   refine l_pk 3 (fun L => (98, .int .i64 ((X.getD (pp + 4) 0).toNat : Nat)) :: (97, .bool false) :: (96, .bool false) :: L) F fun a F => ?_
   by_cases ht17 : (4 : Int) < (((X.getD (pp + 4) 0).toNat : Nat) : Int)
   ·
    refine l_do F rfl rfl (op_pk F (v0 := .bool (decide ((((X.getD (pp + 4) 0).toNat : Nat) : Int) > (4 : Int)))) (v := .bool true) (gtrT ht17) fun a F => ?_)
    refine l_pk 1 (fun L => (100, .bool true) :: L) F fun a F => ?_
    refine l_then ?_
    refine c_t F rfl ?_
    refine wp_exit ?_
    refine then_x ?_
    refine inb_xo (by kernel_rfl) ?_
    refine then_x ?_
    refine inb_x ?_
    refine then_n ?_
    refine s_reg ?_
    refine l_pk 6 (fun L => (4, .slice Aq LL.length cq) :: (3, .bool sl) :: (2, .int .u32 (lif : Nat)) :: (166, .slice Aq LL.length cq) :: (165, .bool sl) :: (164, .int .u32 (lif : Nat)) :: L) F fun a F => ?_
    refine l_then ?_
    refine wp_ret ?_
    rw [show decide (cc = 0) = false from decide_eq_false (by omega)] at htg
    have hnx := next_atN hnn (by omega) (by omega) (by omega) h165 (by omega) rfl rfl
    have ht9 := (tg_other hnx ht15 (by omega) (by omega) (by omega)).symm.trans htg
    exact fin F [.tmp 2, .tmp 3, .tmp 4] [.int .u32 (lif : Nat), .bool sl, .slice Aq LL.length cq] rfl ⟨by kernel_rfl, by kernel_rfl, by kernel_rfl, trivial⟩ (.tuple #[.int .u32 (lif : Nat), .bool sl, .slice Aq LL.length cq]) rfl ⟨Aq, cq, by rw [← ht9], by rw [← ht9]; exact S.pick [0, 1] (by decide)⟩
   refine l_do F rfl rfl (op_pk F (v0 := .bool (decide ((((X.getD (pp + 4) 0).toNat : Nat) : Int) > (4 : Int)))) (v := .bool false) (gtrF ht17) fun a F => ?_)
   refine l_pk 1 (fun L => (100, .bool false) :: L) F fun a F => ?_
   refine l_then ?_
   refine c_f F rfl ?_
   refine wp_skip ?_
   refine then_n ?_
   refine wp_seq ?_
   refine region_gx (fun D => fun (_ : Unit) => [rest w (· < w.heap.size), row 100 2 (.slice Aq LL.length cq) LL.length (LL.flatMap nvC)]) (fun (_ : Unit) => [.slice Ax X.length cx, .int .i64 (pp : Nat), .int .i64 (pp + 6 : Nat), .int .i64 (pp : Nat), .int .i64 (pp + 6 : Nat), .int .i64 ((X.getD (pp + 5) 0).toNat : Nat), .int .i64 (pp + 6 + (X.getD (pp + 5) 0).toNat : Nat), .slice (subA Ax cx (pp + 6) 1) ((pp + 6 + (X.getD (pp + 5) 0).toNat) - (pp + 6)) (cx - (pp + 6)), strV ((X.take (pp + 6 + (X.getD (pp + 5) 0).toNat)).drop (pp + 6)), .slice Ax X.length cx, .int .i64 (pp : Nat), .int .i64 (pp + 6 : Nat), .int .i64 ((X.getD (pp + 5) 0).toNat : Nat), .int .i64 (pp + 6 + (X.getD (pp + 5) 0).toNat : Nat), .int .i64 (pp : Nat), .int .i64 (pp + 4 : Nat), .int .i64 (nn : Nat), .int .i64 (pp + 4 + nn : Nat), .slice (subA Ax cx (pp + 6 + (X.getD (pp + 5) 0).toNat) 1) ((pp + 4 + nn) - (pp + 6 + (X.getD (pp + 5) 0).toNat)) (cx - (pp + 6 + (X.getD (pp + 5) 0).toNat)), strV ((X.take (pp + 4 + nn)).drop (pp + 6 + (X.getD (pp + 5) 0).toNat)), strV ((X.take (pp + 6 + (X.getD (pp + 5) 0).toNat)).drop (pp + 6)), strV ((X.take (pp + 4 + nn)).drop (pp + 6 + (X.getD (pp + 5) 0).toNat))]) [(2, [], [7, 8]), (4, [], [6, 7, 8]), (6, [4], [7, 8]), (7, [2, 4, 6], [8]), (8, [2, 4, 6, 7], []), (11, [], [13, 18, 19]), (13, [11], [18, 19]), (15, [], [17, 18, 19]), (17, [15], [18, 19]), (18, [11, 13, 15, 17], [19]), (19, [11, 13, 15, 17, 18], [])] () rfl (by kernel_rfl) (by kernel_rfl) F S.drew ?_ ?_ ?_ ?_ ?_
   · rintro ⟨⟩; rfl
   ·
    rintro ⟨⟩
    refine Eq.trans (b := [some (.slice Ax X.length cx), some (.int .i64 (pp : Nat)), none, some (.int .i64 (pp : Nat)), none, some (.int .i64 ((X.getD (pp + 5) 0).toNat : Nat)), none, none, none, some (.slice Ax X.length cx), some (.int .i64 (pp : Nat)), none, some (.int .i64 ((X.getD (pp + 5) 0).toNat : Nat)), none, some (.int .i64 (pp : Nat)), none, some (.int .i64 (nn : Nat)), none, none, none, some (strV ((X.take (pp + 6 + (X.getD (pp + 5) 0).toNat)).drop (pp + 6))), some (strV ((X.take (pp + 4 + nn)).drop (pp + 6 + (X.getD (pp + 5) 0).toNat)))]) ?_ ?_ <;> kernel_rfl
   ·
    intro D D' x h
    cases x
    rfl
   ·
    refine ⟨?_, ?_⟩
    ·
     refine ⟨_, rfl, rfl, by kernel_rfl, ?_⟩
     rintro D ⟨⟩ a z S F
     refine ⟨by kernel_rfl, ?_⟩
     exact op_pk F (v0 := .int .i64 (IntKind.wrap .i64 ((pp : Nat) + 6))) (v := .int .i64 (pp + 6 : Nat)) (wrn_i64 (by omega) (by omega) (by omega)) ⟨(), rfl, (SameB.refl _ _ rfl), S⟩
    refine ⟨?_, ?_⟩
    ·
     refine ⟨_, rfl, rfl, by kernel_rfl, ?_⟩
     rintro D ⟨⟩ a z S F
     refine ⟨by kernel_rfl, ?_⟩
     exact op_pk F (v0 := .int .i64 (IntKind.wrap .i64 ((pp : Nat) + 6))) (v := .int .i64 (pp + 6 : Nat)) (wrn_i64 (by omega) (by omega) (by omega)) ⟨(), rfl, (SameB.refl _ _ rfl), S⟩
    refine ⟨?_, ?_⟩
    ·
     refine ⟨_, rfl, rfl, by kernel_rfl, ?_⟩
     rintro D ⟨⟩ a z S F
     refine ⟨by kernel_rfl, ?_⟩
     exact op_pk F (v0 := .int .i64 (IntKind.wrap .i64 ((pp + 6 : Nat) + ((X.getD (pp + 5) 0).toNat : Nat)))) (v := .int .i64 (pp + 6 + (X.getD (pp + 5) 0).toNat : Nat)) (wrn_i64 (by omega) (by omega) (by omega)) ⟨(), rfl, (SameB.refl _ _ rfl), S⟩
    refine ⟨?_, ?_⟩
    ·
     refine ⟨_, rfl, rfl, by kernel_rfl, ?_⟩
     rintro D ⟨⟩ a z S F
     refine ⟨by kernel_rfl, ?_⟩
     exact op_sliceLH _ 5 _ _ _ Ax X.length cx (pp + 6) (pp + 6 + (X.getD (pp + 5) 0).toNat) 1 .i64 .i64 F rfl (by kernel_rfl) (by kernel_rfl) (by kernel_rfl) (by kernel_rfl) (by kernel_rfl) (by omega) (by omega) (⟨(), rfl, (SameB.refl _ _ rfl), S⟩)
    refine ⟨?_, ?_⟩
    ·
     refine ⟨_, rfl, rfl, by kernel_rfl, ?_⟩
     rintro D ⟨⟩ a z S F
     refine ⟨by kernel_rfl, ?_⟩
     exact op_tostrN (N := (pp + 6 + (X.getD (pp + 5) 0).toNat) - (pp + 6)) (Recs.drop (Recs.take (hX.mono (src_rest S (i := 0) rfl hX.src (src_lt hX.src))) (pp + 6 + (X.getD (pp + 5) 0).toNat)) (pp + 6) (Nat.le_trans (List.length_take_le _ _) (by first | omega | (simp only [List.length_drop, List.length_take]; omega)))) (by simp only [List.length_drop, List.length_take]; omega) _ 5 _ _ F rfl (by kernel_rfl) (by kernel_rfl) (by kernel_rfl) (by kernel_rfl) (⟨(), rfl, (SameB.refl _ _ rfl), S⟩)
    refine ⟨?_, ?_⟩
    ·
     refine ⟨_, rfl, rfl, by kernel_rfl, ?_⟩
     rintro D ⟨⟩ a z S F
     refine ⟨by kernel_rfl, ?_⟩
     exact op_pk F (v0 := .int .i64 (IntKind.wrap .i64 ((pp : Nat) + 6))) (v := .int .i64 (pp + 6 : Nat)) (wrn_i64 (by omega) (by omega) (by omega)) ⟨(), rfl, (SameB.refl _ _ rfl), S⟩
    refine ⟨?_, ?_⟩
    ·
     refine ⟨_, rfl, rfl, by kernel_rfl, ?_⟩
     rintro D ⟨⟩ a z S F
     refine ⟨by kernel_rfl, ?_⟩
     exact op_pk F (v0 := .int .i64 (IntKind.wrap .i64 ((pp + 6 : Nat) + ((X.getD (pp + 5) 0).toNat : Nat)))) (v := .int .i64 (pp + 6 + (X.getD (pp + 5) 0).toNat : Nat)) (wrn_i64 (by omega) (by omega) (by omega)) ⟨(), rfl, (SameB.refl _ _ rfl), S⟩
    refine ⟨?_, ?_⟩
    ·
     refine ⟨_, rfl, rfl, by kernel_rfl, ?_⟩
     rintro D ⟨⟩ a z S F
     refine ⟨by kernel_rfl, ?_⟩
     exact op_pk F (v0 := .int .i64 (IntKind.wrap .i64 ((pp : Nat) + 4))) (v := .int .i64 (pp + 4 : Nat)) (wrn_i64 (by omega) (by omega) (by omega)) ⟨(), rfl, (SameB.refl _ _ rfl), S⟩
    refine ⟨?_, ?_⟩
    ·
     refine ⟨_, rfl, rfl, by kernel_rfl, ?_⟩
     rintro D ⟨⟩ a z S F
     refine ⟨by kernel_rfl, ?_⟩
     exact op_pk F (v0 := .int .i64 (IntKind.wrap .i64 ((pp + 4 : Nat) + (nn : Nat)))) (v := .int .i64 (pp + 4 + nn : Nat)) (wrn_i64 (by omega) (by omega) (by omega)) ⟨(), rfl, (SameB.refl _ _ rfl), S⟩
    refine ⟨?_, ?_⟩
    ·
     refine ⟨_, rfl, rfl, by kernel_rfl, ?_⟩
     rintro D ⟨⟩ a z S F
     refine ⟨by kernel_rfl, ?_⟩
     exact op_sliceLH _ 5 _ _ _ Ax X.length cx (pp + 6 + (X.getD (pp + 5) 0).toNat) (pp + 4 + nn) 1 .i64 .i64 F rfl (by kernel_rfl) (by kernel_rfl) (by kernel_rfl) (by kernel_rfl) (by kernel_rfl) (by omega) (by omega) (⟨(), rfl, (SameB.refl _ _ rfl), S⟩)
    refine ⟨?_, ?_⟩
    ·
     refine ⟨_, rfl, rfl, by kernel_rfl, ?_⟩
     rintro D ⟨⟩ a z S F
     refine ⟨by kernel_rfl, ?_⟩
     exact op_tostrN (N := (pp + 4 + nn) - (pp + 6 + (X.getD (pp + 5) 0).toNat)) (Recs.drop (Recs.take (hX.mono (src_rest S (i := 0) rfl hX.src (src_lt hX.src))) (pp + 4 + nn)) (pp + 6 + (X.getD (pp + 5) 0).toNat) (Nat.le_trans (List.length_take_le _ _) (by first | omega | (simp only [List.length_drop, List.length_take]; omega)))) (by simp only [List.length_drop, List.length_take]; omega) _ 5 _ _ F rfl (by kernel_rfl) (by kernel_rfl) (by kernel_rfl) (by kernel_rfl) (⟨(), rfl, (SameB.refl _ _ rfl), S⟩)
    trivial
   rintro ⟨⟩ a z F S
   have F := F.subk (l := [(0, .slice Ax X.length cx), (5, .int .u32 (lif : Nat)), (6, .bool sl), (7, .slice Aq LL.length cq), (8, .int .i64 (pp : Nat)), (9, .int .i64 (cc : Nat)), (10, .int .i64 (nn : Nat)), (11, .int .i64 ((X.getD (pp + 4) 0).toNat : Nat)), (13, strV ((X.take (pp + 6 + (X.getD (pp + 5) 0).toNat)).drop (pp + 6))), (14, strV ((X.take (pp + 4 + nn)).drop (pp + 6 + (X.getD (pp + 5) 0).toNat)))])
   have S : Sat w z [rest w (· < w.heap.size), row 100 2 (.slice Aq LL.length cq) LL.length (LL.flatMap nvC)] := S
   obtain ⟨nm, hnm⟩ : ∃ nm, nm = ((X.take (pp + 6 + (X.getD (pp + 5) 0).toNat)).drop (pp + 6)) := ⟨_, rfl⟩
   obtain ⟨vl, hvl⟩ : ∃ vl, vl = ((X.take (pp + 4 + nn)).drop (pp + 6 + (X.getD (pp + 5) 0).toNat)) := ⟨_, rfl⟩
   rw [← hnm, ← hvl] at F
   have hnx := next_atN hnn (by omega) (by omega) (by omega) h165 (by omega) hnm hvl
   obtain ⟨hq1, hq2, hq3⟩ := next_shorter hnx
   have hq0 : (X.drop pp).length = X.length - pp := List.length_drop
   refine then_n ?_
   refine wp_seq ?_
   refine s_reg ?_
   refine l_pk 1 (fun L => (121, .int .i64 ((X.getD (pp + 4) 0).toNat : Nat)) :: L) F fun a F => ?_
   refine l_do F rfl rfl (op_pk F (v0 := .bool ((((X.getD (pp + 4) 0).toNat : Nat) : Int) == (1 : Int))) (v := .bool false) (eqlF ht15) fun a F => ?_)
   refine l_then ?_
   refine c_f F rfl ?_
   refine wp_skip ?_
   refine then_n ?_
   refine wp_seq ?_
   refine s_reg ?_
   refine l_pk 1 (fun L => (144, .int .i64 ((X.getD (pp + 4) 0).toNat : Nat)) :: L) F fun a F => ?_
   by_cases ht18 : (((X.getD (pp + 4) 0).toNat : Nat) : Int) = (2 : Int)
   ·
    refine l_do F rfl rfl (op_pk F (v0 := .bool ((((X.getD (pp + 4) 0).toNat : Nat) : Int) == (2 : Int))) (v := .bool true) (eqlT ht18) fun a F => ?_)
    refine l_then ?_
    refine c_t F rfl ?_
    refine wp_region_list ?_
    refine l_pk 4 (fun L => (149, .agg #[strV nm, strV vl]) :: (148, strV vl) :: (147, strV nm) :: (146, .slice Aq LL.length cq) :: L) F fun a F => ?_
    refine l_do F rfl rfl (op_fn F (by kernel_rfl) (rput_any _ Aq cq LL (Recs.ofRow (S.rowOf (i := 1) rfl) (by first | omega | decide | (simp only [List.length_cons, List.length_nil]; omega))) (by omega) hri nm vl) ?_)
    rintro e z ⟨Ap, cp, rfl, g⟩
    have S := S.pushThings g
    refine ⟨_, rfl, ?_⟩
    intro a F
    refine l_pk 1 (fun L => (7, .slice Ap ((putN LL (nm, vl)).length) cp) :: L) F fun a F => ?_
    refine l_then ?_
    refine wp_seq ?_
    refine s_reg ?_
    refine l_pk 1 (fun L => (151, .int .i64 ((X.getD (pp + 4) 0).toNat : Nat)) :: L) F fun a F => ?_
    refine l_do F rfl rfl (op_pk F (v0 := .bool ((((X.getD (pp + 4) 0).toNat : Nat) : Int) == (3 : Int))) (v := .bool false) (eqlF (by omega)) fun a F => ?_)
    refine l_then ?_
    refine c_f F rfl ?_
    refine wp_skip ?_
    refine then_n ?_
    refine wp_seq ?_
    refine s_reg ?_
    refine l_pk 1 (fun L => (156, .int .i64 ((X.getD (pp + 4) 0).toNat : Nat)) :: L) F fun a F => ?_
    refine l_do F rfl rfl (op_pk F (v0 := .bool ((((X.getD (pp + 4) 0).toNat : Nat) : Int) == (4 : Int))) (v := .bool false) (eqlF (by omega)) fun a F => ?_)
    refine l_then ?_
    refine c_f F rfl ?_
    refine wp_skip ?_
    refine then_n ?_
    refine s_reg ?_
    refine l_pk 1 (fun L => (158, .int .i64 (pp : Nat)) :: L) F fun a F => ?_
    refine l_do F rfl rfl (op_pk F (v0 := .int .i64 (IntKind.wrap .i64 ((pp : Nat) + 5))) (v := .int .i64 (pp + 5 : Nat)) (wrn_i64 (by omega) (by omega) (by omega)) fun a F => ?_)
    refine l_pk 1 (fun L => (160, .int .i64 (nn : Nat)) :: L) F fun a F => ?_
    refine l_do F rfl rfl (op_pk F (v0 := .int .i64 (IntKind.wrap .i64 ((pp + 5 : Nat) + (nn : Nat)))) (v := .int .i64 (pp + 5 + nn : Nat)) (wrn_i64 (by omega) (by omega) (by omega)) fun a F => ?_)
    refine l_pk 1 (fun L => (8, .int .i64 (pp + 5 + nn : Nat)) :: L) F fun a F => ?_
    refine l_then ?_
    refine wp_region_list ?_
    refine l_pk 1 (fun L => (162, .int .i64 (cc : Nat)) :: L) F fun a F => ?_
    refine l_do F rfl rfl (op_pk F (v0 := .int .i64 (IntKind.wrap .i64 ((cc : Nat) + 1))) (v := .int .i64 (cc + 1 : Nat)) (wrn_i64 (by omega) (by omega) (by omega)) fun a F => ?_)
    refine l_pk 1 (fun L => (9, .int .i64 (cc + 1 : Nat)) :: L) F fun a F => ?_
    refine l_nil (inb_n ?_)
    refine then_n ?_
    rw [show decide (cc = 0) = false from decide_eq_false (by omega)] at htg
    have hg9 := (tg_entry hnx ht15 ht18).symm.trans htg
    exact ⟨_, (by omega), (pp + 5 + nn), (cc + 1), lif, sl, (putN LL (nm, vl)), Ap, cp, rfl, (by omega), (by rw [show decide (cc + 1 = 0) = false from decide_eq_false (by omega)]; exact hg9), (put_rises hri _), (by have h9 := put_len LL (nm, vl); omega), (by omega), (by omega), F.subk, (S.pick [0, 2] (by decide))⟩
   refine l_do F rfl rfl (op_pk F (v0 := .bool ((((X.getD (pp + 4) 0).toNat : Nat) : Int) == (2 : Int))) (v := .bool false) (eqlF ht18) fun a F => ?_)
   refine l_then ?_
   refine c_f F rfl ?_
   refine wp_skip ?_
   refine then_n ?_
   refine wp_seq ?_
   refine s_reg ?_
   refine l_pk 1 (fun L => (151, .int .i64 ((X.getD (pp + 4) 0).toNat : Nat)) :: L) F fun a F => ?_
   by_cases ht19 : (((X.getD (pp + 4) 0).toNat : Nat) : Int) = (3 : Int)
   ·
    refine l_do F rfl rfl (op_pk F (v0 := .bool ((((X.getD (pp + 4) 0).toNat : Nat) : Int) == (3 : Int))) (v := .bool true) (eqlT ht19) fun a F => ?_)
    refine l_then ?_
    refine c_t F rfl ?_
    refine wp_region_list ?_
    refine l_pk 2 (fun L => (154, strV nm) :: (153, .slice Aq LL.length cq) :: L) F fun a F => ?_
    refine l_do F rfl rfl (op_fn F (by kernel_rfl) (rdrop_any _ Aq cq LL (Recs.ofRow (S.rowOf (i := 1) rfl) (by first | omega | decide | (simp only [List.length_cons, List.length_nil]; omega))) (by omega) nm) ?_)
    rintro e z ⟨Ap, cp, rfl, g⟩
    have S := S.pushThings g
    refine ⟨_, rfl, ?_⟩
    intro a F
    refine l_pk 1 (fun L => (7, .slice Ap ((delN LL nm).length) cp) :: L) F fun a F => ?_
    refine l_then ?_
    refine wp_seq ?_
    refine s_reg ?_
    refine l_pk 1 (fun L => (156, .int .i64 ((X.getD (pp + 4) 0).toNat : Nat)) :: L) F fun a F => ?_
    refine l_do F rfl rfl (op_pk F (v0 := .bool ((((X.getD (pp + 4) 0).toNat : Nat) : Int) == (4 : Int))) (v := .bool false) (eqlF (by omega)) fun a F => ?_)
    refine l_then ?_
    refine c_f F rfl ?_
    refine wp_skip ?_
    refine then_n ?_
    refine s_reg ?_
    refine l_pk 1 (fun L => (158, .int .i64 (pp : Nat)) :: L) F fun a F => ?_
    refine l_do F rfl rfl (op_pk F (v0 := .int .i64 (IntKind.wrap .i64 ((pp : Nat) + 5))) (v := .int .i64 (pp + 5 : Nat)) (wrn_i64 (by omega) (by omega) (by omega)) fun a F => ?_)
    refine l_pk 1 (fun L => (160, .int .i64 (nn : Nat)) :: L) F fun a F => ?_
    refine l_do F rfl rfl (op_pk F (v0 := .int .i64 (IntKind.wrap .i64 ((pp + 5 : Nat) + (nn : Nat)))) (v := .int .i64 (pp + 5 + nn : Nat)) (wrn_i64 (by omega) (by omega) (by omega)) fun a F => ?_)
    refine l_pk 1 (fun L => (8, .int .i64 (pp + 5 + nn : Nat)) :: L) F fun a F => ?_
    refine l_then ?_
    refine wp_region_list ?_
    refine l_pk 1 (fun L => (162, .int .i64 (cc : Nat)) :: L) F fun a F => ?_
    refine l_do F rfl rfl (op_pk F (v0 := .int .i64 (IntKind.wrap .i64 ((cc : Nat) + 1))) (v := .int .i64 (cc + 1 : Nat)) (wrn_i64 (by omega) (by omega) (by omega)) fun a F => ?_)
    refine l_pk 1 (fun L => (9, .int .i64 (cc + 1 : Nat)) :: L) F fun a F => ?_
    refine l_nil (inb_n ?_)
    refine then_n ?_
    rw [show decide (cc = 0) = false from decide_eq_false (by omega)] at htg
    have hg9 := (tg_gone hnx ht15 (by omega) ht19).symm.trans htg
    exact ⟨_, (by omega), (pp + 5 + nn), (cc + 1), lif, sl, (delN LL nm), Ap, cp, rfl, (by omega), (by rw [show decide (cc + 1 = 0) = false from decide_eq_false (by omega)]; exact hg9), (del_rises hri _), (by have h9 := del_len LL nm; omega), (by omega), (by omega), F.subk, (S.pick [0, 2] (by decide))⟩
   refine l_do F rfl rfl (op_pk F (v0 := .bool ((((X.getD (pp + 4) 0).toNat : Nat) : Int) == (3 : Int))) (v := .bool false) (eqlF ht19) fun a F => ?_)
   refine l_then ?_
   refine c_f F rfl ?_
   refine wp_skip ?_
   refine then_n ?_
   refine wp_seq ?_
   refine s_reg ?_
   refine l_pk 1 (fun L => (156, .int .i64 ((X.getD (pp + 4) 0).toNat : Nat)) :: L) F fun a F => ?_
   refine l_do F rfl rfl (op_pk F (v0 := .bool ((((X.getD (pp + 4) 0).toNat : Nat) : Int) == (4 : Int))) (v := .bool true) (eqlT (by omega)) fun a F => ?_)
   refine l_then ?_
   refine c_t F rfl ?_
   refine wp_region_list ?_
   refine l_pk 1 (fun L => (6, .bool true) :: L) F fun a F => ?_
   refine l_then ?_
   refine s_reg ?_
   refine l_pk 1 (fun L => (158, .int .i64 (pp : Nat)) :: L) F fun a F => ?_
   refine l_do F rfl rfl (op_pk F (v0 := .int .i64 (IntKind.wrap .i64 ((pp : Nat) + 5))) (v := .int .i64 (pp + 5 : Nat)) (wrn_i64 (by omega) (by omega) (by omega)) fun a F => ?_)
   refine l_pk 1 (fun L => (160, .int .i64 (nn : Nat)) :: L) F fun a F => ?_
   refine l_do F rfl rfl (op_pk F (v0 := .int .i64 (IntKind.wrap .i64 ((pp + 5 : Nat) + (nn : Nat)))) (v := .int .i64 (pp + 5 + nn : Nat)) (wrn_i64 (by omega) (by omega) (by omega)) fun a F => ?_)
   refine l_pk 1 (fun L => (8, .int .i64 (pp + 5 + nn : Nat)) :: L) F fun a F => ?_
   refine l_then ?_
   refine wp_region_list ?_
   refine l_pk 1 (fun L => (162, .int .i64 (cc : Nat)) :: L) F fun a F => ?_
   refine l_do F rfl rfl (op_pk F (v0 := .int .i64 (IntKind.wrap .i64 ((cc : Nat) + 1))) (v := .int .i64 (cc + 1 : Nat)) (wrn_i64 (by omega) (by omega) (by omega)) fun a F => ?_)
   refine l_pk 1 (fun L => (9, .int .i64 (cc + 1 : Nat)) :: L) F fun a F => ?_
   refine l_nil (inb_n ?_)
   refine then_n ?_
   rw [show decide (cc = 0) = false from decide_eq_false (by omega)] at htg
   have hg9 := (tg_seal hnx ht15 (by omega) (by omega) (by omega)).symm.trans htg
   exact ⟨_, (by omega), (pp + 5 + nn), (cc + 1), lif, true, LL, Aq, cq, rfl, (by omega), (by rw [show decide (cc + 1 = 0) = false from decide_eq_false (by omega)]; exact hg9), hri, (by omega), (by omega), (by omega), F.subk, S⟩
  have h165 : ¬ X.getD (pp + 4 + nn) 0 = 165 := fun h9 => by rw [h9] at ht10; exact absurd rfl ht10
  refine l_do F rfl rfl (op_pk F (v0 := .bool ((((X.getD (pp + 4 + nn) 0).toNat : Nat) : Int) != (165 : Int))) (v := .bool true) (neqT ht10) fun a F => ?_)
  refine l_pk 1 (fun L => (69, .bool true) :: L) F fun a F => ?_
  refine l_then ?_
  refine c_t F rfl ?_
  refine wp_exit ?_
  refine then_x ?_
  refine inb_xo (by kernel_rfl) ?_
  refine then_x ?_
  refine inb_x ?_
  refine then_n ?_
  refine s_reg ?_
  refine l_pk 6 (fun L => (4, .slice Aq LL.length cq) :: (3, .bool sl) :: (2, .int .u32 (lif : Nat)) :: (166, .slice Aq LL.length cq) :: (165, .bool sl) :: (164, .int .u32 (lif : Nat)) :: L) F fun a F => ?_
  refine l_then ?_
  refine wp_ret ?_
  have ht9 := (tellG_none (next_stopN hnn hpl (by first | (left; omega) | (right; left; omega) | (right; right; left; omega) | (right; right; right; left; assumption) | (right; right; right; right; omega)))).symm.trans htg
  exact fin F [.tmp 2, .tmp 3, .tmp 4] [.int .u32 (lif : Nat), .bool sl, .slice Aq LL.length cq] rfl ⟨by kernel_rfl, by kernel_rfl, by kernel_rfl, trivial⟩ (.tuple #[.int .u32 (lif : Nat), .bool sl, .slice Aq LL.length cq]) rfl ⟨Aq, cq, by rw [← ht9], by rw [← ht9]; exact S.pick [0, 1] (by decide)⟩
 refine l_do F rfl rfl (op_pk F (v0 := .bool (decide (((pp + 4 : Nat) : Int) ≤ ((X.length : Nat) : Int)))) (v := .bool false) (leqF ht7) fun a F => ?_)
 refine l_then ?_
 refine c_f F rfl ?_
 refine wp_exit ?_
 refine then_x ?_
 refine then_x ?_
 refine inb_x ?_
 refine then_n ?_
 refine s_reg ?_
 refine l_pk 6 (fun L => (4, .slice Aq LL.length cq) :: (3, .bool sl) :: (2, .int .u32 (lif : Nat)) :: (166, .slice Aq LL.length cq) :: (165, .bool sl) :: (164, .int .u32 (lif : Nat)) :: L) F fun a F => ?_
 refine l_then ?_
 refine wp_ret ?_
 have ht9 := (tellG_none (next_stopN rfl hpl (by first | (left; omega) | (right; left; omega) | (right; right; left; omega) | (right; right; right; left; assumption) | (right; right; right; right; omega)))).symm.trans htg
 exact fin F [.tmp 2, .tmp 3, .tmp 4] [.int .u32 (lif : Nat), .bool sl, .slice Aq LL.length cq] rfl ⟨by kernel_rfl, by kernel_rfl, by kernel_rfl, trivial⟩ (.tuple #[.int .u32 (lif : Nat), .bool sl, .slice Aq LL.length cq]) rfl ⟨Aq, cq, by rw [← ht9], by rw [← ht9]; exact S.pick [0, 1] (by decide)⟩
end Go.Proofs.Ytidcdfilfccigaa
