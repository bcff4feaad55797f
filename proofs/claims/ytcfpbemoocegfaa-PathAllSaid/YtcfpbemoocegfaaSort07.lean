/- Walks over slices.Index, Contains and Sort of []int. -/
import Derived.Test.YtcfpbemoocegfaaSortP
import Derived.Test.YtcfpbemoocegfaaGo
import Derived.Test.YtcfpbemoocegfaaLen07
namespace Go.Proofs.Ytcfpbemoocegfaa
set_option linter.unusedVariables false
set_option linter.unusedSimpArgs false
set_option linter.unnecessarySimpa false
open Go Go.RowKit

set_option maxRecDepth 100000 in
set_option maxHeartbeats 4000000 in
theorem index_any7 (w : World) (A : Option Addr) (c : Nat) (X : List Int) (v : Int) (h : Recs 1 iC_i64 w A c X) (hl : X.length ≤ 140737488355328) : Calls Try.prog 61 #[.slice A X.length c, .int .i64 v] w fun e w' => e = .returned (.int .i64 (idxF v X 0)) ∧ Below w.heap.size w w' := by
 refine enter 19 Try.func61 rfl rfl rfl fun a F => ?_
 have S := Sat.pushRest w
 refine s_reg ?_
 refine l_pure 1 (fun L => (4, .int .i64 0) :: L) F (by kernel_rfl) fun a F => ?_
 refine l_then ?_
 refine wp_seq ?_
 refine s_reg ?_
 refine l_pure 3 (fun L => (8, .int .i64 0) :: (7, .int .i64 (X.length : Nat)) :: (6, .slice A X.length c) :: L) F (by kernel_rfl) fun a F => ?_
 refine l_then ?_
 refine wp_block ?_
 refine wp_loop_m (fun m a z => ∃ (k : Nat), m = X.length - k ∧ (k ≤ X.length) ∧ (∀ i, i < k → X[i]? ≠ some v) ∧ Fr a 19 [(0, .slice A X.length c), (1, .int .i64 v), (7, .int .i64 (X.length : Nat)), (8, .int .i64 (k : Nat))] ∧ Sat w z [rest w (· < w.heap.size)]) _ ⟨0, rfl, Nat.zero_le _, (fun i hi => absurd hi (Nat.not_lt_zero i)), F.sub ⟨by kernel_rfl, by kernel_rfl, by kernel_rfl, by kernel_rfl, trivial⟩, S⟩ ?_
 rintro m a z ⟨k, hm, hf1, hf2, F, S⟩
 have hn := hf2
 refine s_reg ?_
 by_cases ht3 : ((k : Nat) : Int) < ((X.length : Nat) : Int)
 ·
  skip
  obtain ⟨u, hu⟩ : ∃ u, X[k]? = some u := ⟨_, List.getElem?_eq_getElem (by omega)⟩
  refine l_do F rfl rfl (op_pure F (v0 := .bool (decide (((k : Nat) : Int) < ((X.length : Nat) : Int)))) (v := .bool true) (by kernel_rfl) (lssT ht3) fun a F => ?_)
  refine l_then ?_
  refine wp_seq ?_
  refine c_t F rfl ?_
  refine wp_skip ?_
  refine then_n ?_
  refine wp_seq ?_
  refine wp_block ?_
  refine s_reg ?_
  refine l_pure 2 (fun L => (5, .int .i64 (k : Nat)) :: (10, .int .i64 (k : Nat)) :: L) F (by kernel_rfl) fun a F => ?_
  refine l_then ?_
  refine s_reg ?_
  refine l_pure 3 (fun L => (13, .int .i64 (k : Nat)) :: (12, .slice A X.length c) :: (11, .int .i64 v) :: L) F (by kernel_rfl) fun a F => ?_
  refine l_do F rfl rfl (op_index _ 3 _ _ A X.length c k 1 .i64 F rfl (by kernel_rfl) (by kernel_rfl) (by kernel_rfl) (by kernel_rfl) (get_lt hu) (recs_some h (m := k) (get_lt hu)) (fun a F => ?_))
  refine l_do F rfl rfl (op_load _ _ A (k * 1) (.int .i64 u) F rfl (by kernel_rfl) (by kernel_rfl) (cOld S 0 iC_len_i64 h rfl 0 hu rfl) (fun a F => ?_))
  by_cases ht4 : (v : Int) = (u : Int)
  ·
   skip
   refine l_do F rfl rfl (op_pure F (v0 := .bool ((v : Int) == (u : Int))) (v := .bool true) (by kernel_rfl) (eqlT ht4) fun a F => ?_)
   refine l_then ?_
   refine c_t F rfl ?_
   refine s_reg ?_
   refine l_pure 2 (fun L => (4, .int .i64 (k : Nat)) :: (17, .int .i64 (k : Nat)) :: L) F (by kernel_rfl) fun a F => ?_
   refine l_then ?_
   refine wp_ret ?_
   refine inb_r (then_r (then_r (inb_r (then_r (?_)))))
   exact fin F [.tmp 4] [.int .i64 (k : Nat)] rfl ⟨by kernel_rfl, trivial⟩ (.int .i64 (k : Nat)) rfl ⟨by rw [idxF_at hn (by rw [hu, ht4]), Int.zero_add], S.below (i := 0) rfl⟩
  ·
   skip
   refine l_do F rfl rfl (op_pure F (v0 := .bool ((v : Int) == (u : Int))) (v := .bool false) (by kernel_rfl) (eqlF ht4) fun a F => ?_)
   refine l_then ?_
   refine c_f F rfl ?_
   refine wp_skip ?_
   refine inb_n ?_
   refine then_n ?_
   refine wp_region_list ?_
   refine l_do F rfl rfl (op_pure F (v0 := .int .i64 (IntKind.wrap .i64 ((k : Nat) + 1))) (v := .int .i64 (k + 1 : Nat)) (by kernel_rfl) (wrn_i64 (by omega) (by omega) (by omega)) fun a F => ?_)
   refine l_pure 1 (fun L => (8, .int .i64 (k + 1 : Nat)) :: L) F (by kernel_rfl) fun a F => ?_
   refine l_then ?_
   exact ⟨_, by omega, k + 1, rfl, by omega, (fun i hi => by rcases (show i < k ∨ i = k by omega) with h1 | rfl; exact hn i h1; rw [hu]; exact fun e => ht4 (Option.some.inj e).symm), F.sub ⟨by kernel_rfl, by kernel_rfl, by kernel_rfl, by kernel_rfl, trivial⟩, S⟩
 ·
  skip
  refine l_do F rfl rfl (op_pure F (v0 := .bool (decide (((k : Nat) : Int) < ((X.length : Nat) : Int)))) (v := .bool false) (by kernel_rfl) (lssF ht3) fun a F => ?_)
  refine l_then ?_
  refine wp_seq ?_
  refine c_f F rfl ?_
  refine wp_exit ?_
  refine then_x ?_
  refine then_x ?_
  refine inb_x ?_
  refine then_n ?_
  refine s_reg ?_
  refine l_pure 1 (fun L => (4, .int .i64 (-1)) :: L) F (by kernel_rfl) fun a F => ?_
  refine l_then ?_
  refine wp_ret ?_
  exact fin F [.tmp 4] [.int .i64 (-1)] rfl ⟨by kernel_rfl, trivial⟩ (.int .i64 (-1)) rfl ⟨by rw [idxF_none fun i => (by by_cases hi : i < k; exact hn i hi; rw [List.getElem?_eq_none (by omega)]; simp)], S.below (i := 0) rfl⟩
set_option maxRecDepth 100000 in
set_option maxHeartbeats 4000000 in
theorem contains_any (w : World) (A : Option Addr) (c : Nat) (X : List Int) (v : Int) (h : Recs 1 iC_i64 w A c X) (hl : X.length ≤ 140737488355328) : Calls Try.prog 79 #[.slice A X.length c, .int .i64 v] w fun e w' => e = .returned (.bool (decide (v ∈ X))) ∧ Below w.heap.size w w' := by
 refine enter 9 Try.func79 rfl rfl rfl fun a F => ?_
 have S := Sat.pushRest w
 refine s_reg ?_
 refine l_pure 1 (fun L => (4, .bool false) :: L) F (by kernel_rfl) fun a F => ?_
 refine l_then ?_
 refine s_reg ?_
 refine l_pure 2 (fun L => (6, .int .i64 v) :: (5, .slice A X.length c) :: L) F (by kernel_rfl) fun a F => ?_
 refine l_do F rfl rfl (op_fn F (by kernel_rfl) (index_any7 _ A c X v (h.mono (src_rest S (i := 0) rfl h.src (src_lt h.src))) hl) ?_)
 rintro e z ⟨rfl, hb⟩
 have S := S.grow hb
 refine ⟨_, rfl, ?_⟩
 intro a F
 by_cases ht1 : (0 : Int) ≤ (idxF v X 0 : Int)
 ·
  skip
  refine l_do F rfl rfl (op_pure F (v0 := .bool (decide ((idxF v X 0 : Int) ≥ (0 : Int)))) (v := .bool true) (by kernel_rfl) (geqT ht1) fun a F => ?_)
  refine l_pure 1 (fun L => (4, .bool true) :: L) F (by kernel_rfl) fun a F => ?_
  refine l_then ?_
  refine wp_ret ?_
  exact fin F [.tmp 4] [.bool true] rfl ⟨by kernel_rfl, trivial⟩ (.bool true) rfl ⟨by rw [decide_eq_true ((idxF_mem (Int.le_refl 0)).1 ht1)], S.below (i := 0) rfl⟩
 ·
  skip
  refine l_do F rfl rfl (op_pure F (v0 := .bool (decide ((idxF v X 0 : Int) ≥ (0 : Int)))) (v := .bool false) (by kernel_rfl) (geqF ht1) fun a F => ?_)
  refine l_pure 1 (fun L => (4, .bool false) :: L) F (by kernel_rfl) fun a F => ?_
  refine l_then ?_
  refine wp_ret ?_
  exact fin F [.tmp 4] [.bool false] rfl ⟨by kernel_rfl, trivial⟩ (.bool false) rfl ⟨by rw [decide_eq_false (fun hm => ht1 ((idxF_mem (Int.le_refl 0)).2 hm))], S.below (i := 0) rfl⟩
set_option maxRecDepth 100000 in
set_option maxHeartbeats 4000000 in
theorem nan_any (w : World) (x : Int) : Calls Try.prog 128 #[.int .i64 x] w fun e w' => e = .returned (.bool false) ∧ Below w.heap.size w w' := by
 refine enter 6 Try.func128 rfl rfl rfl fun a F => ?_
 have S := Sat.pushRest w
 refine s_reg ?_
 refine l_pure 1 (fun L => (2, .bool false) :: L) F (by kernel_rfl) fun a F => ?_
 refine l_then ?_
 refine s_reg ?_
 refine l_pure 2 (fun L => (4, .int .i64 x) :: (3, .int .i64 x) :: L) F (by kernel_rfl) fun a F => ?_
 refine l_do F rfl rfl (op_pure F (v0 := .bool ((x : Int) != (x : Int))) (v := .bool false) (by kernel_rfl) (neqF rfl) fun a F => ?_)
 refine l_pure 1 (fun L => (2, .bool false) :: L) F (by kernel_rfl) fun a F => ?_
 refine l_then ?_
 refine wp_ret ?_
 exact fin F [.tmp 2] [.bool false] rfl ⟨by kernel_rfl, trivial⟩ (.bool false) rfl ⟨rfl, S.below (i := 0) rfl⟩
set_option maxRecDepth 100000 in
set_option maxHeartbeats 4000000 in
theorem less_any (w : World) (x y : Int) : Calls Try.prog 116 #[.int .i64 x, .int .i64 y] w fun e w' => e = .returned (.bool (decide (x < y))) ∧ Below w.heap.size w w' := by
 refine enter 17 Try.func116 rfl rfl rfl fun a F => ?_
 have S := Sat.pushRest w
 refine s_reg ?_
 refine l_pure 1 (fun L => (4, .bool false) :: L) F (by kernel_rfl) fun a F => ?_
 refine l_then ?_
 refine s_reg ?_
 refine l_pure 1 (fun L => (5, .int .i64 x) :: L) F (by kernel_rfl) fun a F => ?_
 refine l_do F rfl rfl (op_fn F (by kernel_rfl) (nan_any _ x) ?_)
 rintro e z ⟨rfl, hb⟩
 have S := S.grow hb
 refine ⟨_, rfl, ?_⟩
 intro a F
 refine l_pure 8 (fun L => (14, .int .i64 y) :: (13, .int .i64 x) :: (12, .bool false) :: (11, .bool false) :: (10, undef) :: (9, undef) :: (8, undef) :: (7, .bool false) :: L) F (by kernel_rfl) fun a F => ?_
 by_cases ht1 : (x : Int) < (y : Int)
 ·
  skip
  refine l_do F rfl rfl (op_pure F (v0 := .bool (decide ((x : Int) < (y : Int)))) (v := .bool true) (by kernel_rfl) (lssT ht1) fun a F => ?_)
  refine l_pure 2 (fun L => (4, .bool true) :: (16, .bool true) :: L) F (by kernel_rfl) fun a F => ?_
  refine l_then ?_
  refine wp_ret ?_
  exact fin F [.tmp 4] [.bool true] rfl ⟨by kernel_rfl, trivial⟩ (.bool true) rfl ⟨by rw [decide_eq_true ht1], S.below (i := 0) rfl⟩
 ·
  skip
  refine l_do F rfl rfl (op_pure F (v0 := .bool (decide ((x : Int) < (y : Int)))) (v := .bool false) (by kernel_rfl) (lssF ht1) fun a F => ?_)
  refine l_pure 2 (fun L => (4, .bool false) :: (16, .bool false) :: L) F (by kernel_rfl) fun a F => ?_
  refine l_then ?_
  refine wp_ret ?_
  exact fin F [.tmp 4] [.bool false] rfl ⟨by kernel_rfl, trivial⟩ (.bool false) rfl ⟨by rw [decide_eq_false ht1], S.below (i := 0) rfl⟩
set_option maxRecDepth 100000 in
set_option maxHeartbeats 4000000 in
theorem insertion_any (w : World) (A : Option Addr) (c : Nat) (X : List Int) (h1 : 1 ≤ X.length) (hl : X.length ≤ 1000) : ∀ Fp, (row 3 1 (.slice A X.length c) X.length (X.flatMap iC_i64)).sat Fp w → Calls Try.prog 110 #[.slice A X.length c, .int .i64 0, .int .i64 (X.length : Nat)] w fun e w' => e = .returned (.tuple #[]) ∧ ∃ F', (row 3 1 (.slice A X.length c) X.length ((isort X).flatMap iC_i64)).sat F' w' ∧ Moves Fp F' w w' := by
  intro Fp hF
  refine enter 49 Try.func110 rfl rfl rfl fun a F => ?_
  have S := Sat.ofOne hF
  refine s_reg ?_
  refine l_pure 3 (fun L => (6, .int .i64 1) :: (9, .int .i64 1) :: (8, .int .i64 0) :: L) F (by kernel_rfl) fun a F => ?_
  refine l_then ?_
  refine wp_block ?_
  refine wp_loop_m (fun m a z => ∃ (i : Nat) (Z : List Int), m = X.length - i ∧ (1 ≤ i) ∧ (i ≤ X.length) ∧ (Z.length = X.length) ∧ (isortF (X.length - i) i Z = isort X) ∧ Fr a 49 [(0, .slice A X.length c), (1, .int .i64 0), (2, .int .i64 (X.length : Nat)), (6, .int .i64 (i : Nat))] ∧ Sat w z [row 3 1 (.slice A X.length c) X.length (Z.flatMap iC_i64), rest w (fun k => k < w.heap.size ∧ ¬ Fp k)]) _ ⟨1, X, rfl, Nat.le_refl _, (by omega), rfl, rfl, F.sub ⟨by kernel_rfl, by kernel_rfl, by kernel_rfl, by kernel_rfl, trivial⟩, S⟩ ?_
  rintro m a z ⟨i, Z, hm, hf1, hf2, hf3, hf4, F, S⟩
  have hS := hf4
  refine wp_seq ?_
  refine s_reg ?_
  refine l_pure 2 (fun L => (11, .int .i64 (X.length : Nat)) :: (10, .int .i64 (i : Nat)) :: L) F (by kernel_rfl) fun a F => ?_
  by_cases ht5 : ((i : Nat) : Int) < ((X.length : Nat) : Int)
  ·
   skip
   refine l_do F rfl rfl (op_pure F (v0 := .bool (decide (((i : Nat) : Int) < ((X.length : Nat) : Int)))) (v := .bool true) (by kernel_rfl) (lssT ht5) fun a F => ?_)
   refine l_then ?_
   refine c_t F rfl ?_
   refine wp_skip ?_
   refine then_n ?_
   refine wp_seq ?_
   refine wp_block ?_
   refine s_reg ?_
   refine l_pure 2 (fun L => (7, .int .i64 (i : Nat)) :: (15, .int .i64 (i : Nat)) :: L) F (by kernel_rfl) fun a F => ?_
   refine l_then ?_
   refine wp_block ?_
   refine wp_loop_m (fun m a z => ∃ (j : Nat) (Y : List Int), m = j ∧ (j < X.length) ∧ (Y.length = X.length) ∧ (sink j Y = sink i Z) ∧ Fr a 49 [(0, .slice A X.length c), (1, .int .i64 0), (2, .int .i64 (X.length : Nat)), (6, .int .i64 (i : Nat)), (7, .int .i64 (j : Nat))] ∧ Sat w z [row 3 1 (.slice A X.length c) X.length (Y.flatMap iC_i64), rest w (fun k => k < w.heap.size ∧ ¬ Fp k)]) _ ⟨i, Z, rfl, (by omega), (by omega), rfl, F.sub ⟨by kernel_rfl, by kernel_rfl, by kernel_rfl, by kernel_rfl, by kernel_rfl, trivial⟩, S⟩ ?_
   rintro m a z ⟨j, Y, hm, hf6, hf7, hf8, F, S⟩
   refine wp_seq ?_
   refine wp_seq ?_
   by_cases ht9 : (0 : Int) < ((j : Nat) : Int)
   ·
    skip
    obtain ⟨u, hu⟩ : ∃ u, Y[j]? = some u := ⟨_, List.getElem?_eq_getElem (by omega)⟩
    obtain ⟨t, ht⟩ : ∃ t, Y[j - 1]? = some t := ⟨_, List.getElem?_eq_getElem (by omega)⟩
    cases hb10 : (decide (u < t)) with
    | false =>
     refine region_gx (fun D => fun (_ : Unit) => [row 3 1 (.slice A X.length c) X.length (Y.flatMap iC_i64), rest w (fun k => k < w.heap.size ∧ ¬ Fp k)]) (fun (_ : Unit) => [.int .i64 (j : Nat), .int .i64 0, .bool true, .bool true, .slice A X.length c, .int .i64 (j : Nat), ptrA A (j * 1), .int .i64 u, .slice A X.length c, .int .i64 (j : Nat), .int .i64 (j - 1 : Nat), ptrA A ((j - 1) * 1), .int .i64 t, .bool false, .bool false]) [(2, [], [6, 7, 10, 11, 12, 13]), (6, [2], [7, 13]), (7, [2, 6], [13]), (10, [2], [11, 12, 13]), (11, [2, 10], [12, 13]), (12, [2, 10, 11], [13]), (13, [2, 6, 7, 10, 11, 12], [])] () rfl (by kernel_rfl) (by kernel_rfl) F S.drew ?_ ?_ ?_ ?_ ?_
     · rintro ⟨⟩; rfl
     · rintro ⟨⟩; kernel_rfl
     ·
      intro D D' x h
      cases x
      rfl
     ·
      refine ⟨?_, ?_⟩
      ·
       refine ⟨_, rfl, rfl, by kernel_rfl, ?_⟩
       rintro D ⟨⟩ a z S F
       refine ⟨by kernel_rfl, ?_⟩
       exact op_pure F (v0 := .bool (decide (((j : Nat) : Int) > (0 : Int)))) (v := .bool true) (by kernel_rfl) (gtrT ht9) ⟨(), rfl, (SameB.refl _ _ rfl), S⟩
      refine ⟨?_, ?_⟩
      ·
       refine ⟨_, rfl, rfl, by kernel_rfl, ?_⟩
       rintro D ⟨⟩ a z S F
       refine ⟨by kernel_rfl, ?_⟩
       exact op_index _ 3 _ _ A X.length c j 1 .i64 F rfl (by kernel_rfl) (by kernel_rfl) (by kernel_rfl) (by kernel_rfl) (by have h9 := get_lt hu; (try simp only [List.length_set] at h9); omega) (row_some S 0 rfl (m := j) (by have h9 := get_lt hu; (try simp only [List.length_set] at h9); omega)) (⟨(), rfl, (SameB.refl _ _ rfl), S⟩)
      refine ⟨?_, ?_⟩
      ·
       refine ⟨_, rfl, rfl, by kernel_rfl, ?_⟩
       rintro D ⟨⟩ a z S F
       refine ⟨by kernel_rfl, ?_⟩
       exact op_load _ _ A (j * 1) (.int .i64 u) F rfl (by kernel_rfl) (by kernel_rfl) (cRec S 0 iC_len_i64 rfl 0 hu rfl) (⟨(), rfl, (SameB.refl _ _ rfl), S⟩)
      refine ⟨?_, ?_⟩
      ·
       refine ⟨_, rfl, rfl, by kernel_rfl, ?_⟩
       rintro D ⟨⟩ a z S F
       refine ⟨by kernel_rfl, ?_⟩
       exact op_pure F (v0 := .int .i64 (IntKind.wrap .i64 ((j : Nat) - 1))) (v := .int .i64 (j - 1 : Nat)) (by kernel_rfl) (wrn_i64 (by omega) (by omega) (by omega)) ⟨(), rfl, (SameB.refl _ _ rfl), S⟩
      refine ⟨?_, ?_⟩
      ·
       refine ⟨_, rfl, rfl, by kernel_rfl, ?_⟩
       rintro D ⟨⟩ a z S F
       refine ⟨by kernel_rfl, ?_⟩
       exact op_index _ 3 _ _ A X.length c (j - 1) 1 .i64 F rfl (by kernel_rfl) (by kernel_rfl) (by kernel_rfl) (by kernel_rfl) (by have h9 := get_lt ht; (try simp only [List.length_set] at h9); omega) (row_some S 0 rfl (m := j - 1) (by have h9 := get_lt ht; (try simp only [List.length_set] at h9); omega)) (⟨(), rfl, (SameB.refl _ _ rfl), S⟩)
      refine ⟨?_, ?_⟩
      ·
       refine ⟨_, rfl, rfl, by kernel_rfl, ?_⟩
       rintro D ⟨⟩ a z S F
       refine ⟨by kernel_rfl, ?_⟩
       exact op_load _ _ A ((j - 1) * 1) (.int .i64 t) F rfl (by kernel_rfl) (by kernel_rfl) (cRec S 0 iC_len_i64 rfl 0 ht rfl) (⟨(), rfl, (SameB.refl _ _ rfl), S⟩)
      refine ⟨?_, ?_⟩
      ·
       refine ⟨_, rfl, rfl, by kernel_rfl, ?_⟩
       rintro D ⟨⟩ a z S F
       refine ⟨by kernel_rfl, ?_⟩
       refine op_fn F (by kernel_rfl) (less_any _ u t) ?_
       rintro e z ⟨rfl, hb⟩
       have S := S.grow hb
       exact ⟨_, rfl, (), by rw [hb10]; rfl, (SameB.refl _ _ rfl), S⟩
      trivial
     ·
      rintro ⟨⟩ a z F S
      have F := F.sub (l := [(0, .slice A X.length c), (1, .int .i64 0), (2, .int .i64 (X.length : Nat)), (6, .int .i64 (i : Nat)), (7, .int .i64 (j : Nat)), (30, .bool false)]) ⟨by kernel_rfl, by kernel_rfl, by kernel_rfl, by kernel_rfl, by kernel_rfl, by kernel_rfl, trivial⟩
      have S : Sat w z [row 3 1 (.slice A X.length c) X.length (Y.flatMap iC_i64), rest w (fun k => k < w.heap.size ∧ ¬ Fp k)] := S
      refine then_n ?_
      refine c_f F rfl ?_
      refine wp_exit ?_
      refine then_x ?_
      refine then_x ?_
      refine inb_x ?_
      refine inb_n ?_
      refine then_n ?_
      refine wp_region_list ?_
      refine l_pure 1 (fun L => (13, .int .i64 (i : Nat)) :: L) F (by kernel_rfl) fun a F => ?_
      refine l_do F rfl rfl (op_pure F (v0 := .int .i64 (IntKind.wrap .i64 ((i : Nat) + 1))) (v := .int .i64 (i + 1 : Nat)) (by kernel_rfl) (wrn_i64 (by omega) (by omega) (by omega)) fun a F => ?_)
      refine l_pure 1 (fun L => (6, .int .i64 (i + 1 : Nat)) :: L) F (by kernel_rfl) fun a F => ?_
      refine l_then ?_
      exact ⟨_, (by omega), i + 1, Y, rfl, (by omega), (by omega), (by omega), (by
          have h8 : sink i Z = Y := (by
            have h9 := sink_no (j := j - 1) (X := Y) ht (by rw [show j - 1 + 1 = j from by omega]; exact hu) (of_decide_eq_false hb10)
            rw [show j - 1 + 1 = j from by omega] at h9
            rw [← hf8, h9])
          rw [← h8, ← hS, show X.length - i = (X.length - (i + 1)) + 1 from by omega]; rfl), F.sub ⟨by kernel_rfl, by kernel_rfl, by kernel_rfl, by kernel_rfl, trivial⟩, S⟩
    | true =>
     refine region_gx (fun D => fun (_ : Unit) => [row 3 1 (.slice A X.length c) X.length (Y.flatMap iC_i64), rest w (fun k => k < w.heap.size ∧ ¬ Fp k)]) (fun (_ : Unit) => [.int .i64 (j : Nat), .int .i64 0, .bool true, .bool true, .slice A X.length c, .int .i64 (j : Nat), ptrA A (j * 1), .int .i64 u, .slice A X.length c, .int .i64 (j : Nat), .int .i64 (j - 1 : Nat), ptrA A ((j - 1) * 1), .int .i64 t, .bool true, .bool true]) [(2, [], [6, 7, 10, 11, 12, 13]), (6, [2], [7, 13]), (7, [2, 6], [13]), (10, [2], [11, 12, 13]), (11, [2, 10], [12, 13]), (12, [2, 10, 11], [13]), (13, [2, 6, 7, 10, 11, 12], [])] () rfl (by kernel_rfl) (by kernel_rfl) F S.drew ?_ ?_ ?_ ?_ ?_
     · rintro ⟨⟩; rfl
     · rintro ⟨⟩; kernel_rfl
     ·
      intro D D' x h
      cases x
      rfl
     ·
      refine ⟨?_, ?_⟩
      ·
       refine ⟨_, rfl, rfl, by kernel_rfl, ?_⟩
       rintro D ⟨⟩ a z S F
       refine ⟨by kernel_rfl, ?_⟩
       exact op_pure F (v0 := .bool (decide (((j : Nat) : Int) > (0 : Int)))) (v := .bool true) (by kernel_rfl) (gtrT ht9) ⟨(), rfl, (SameB.refl _ _ rfl), S⟩
      refine ⟨?_, ?_⟩
      ·
       refine ⟨_, rfl, rfl, by kernel_rfl, ?_⟩
       rintro D ⟨⟩ a z S F
       refine ⟨by kernel_rfl, ?_⟩
       exact op_index _ 3 _ _ A X.length c j 1 .i64 F rfl (by kernel_rfl) (by kernel_rfl) (by kernel_rfl) (by kernel_rfl) (by have h9 := get_lt hu; (try simp only [List.length_set] at h9); omega) (row_some S 0 rfl (m := j) (by have h9 := get_lt hu; (try simp only [List.length_set] at h9); omega)) (⟨(), rfl, (SameB.refl _ _ rfl), S⟩)
      refine ⟨?_, ?_⟩
      ·
       refine ⟨_, rfl, rfl, by kernel_rfl, ?_⟩
       rintro D ⟨⟩ a z S F
       refine ⟨by kernel_rfl, ?_⟩
       exact op_load _ _ A (j * 1) (.int .i64 u) F rfl (by kernel_rfl) (by kernel_rfl) (cRec S 0 iC_len_i64 rfl 0 hu rfl) (⟨(), rfl, (SameB.refl _ _ rfl), S⟩)
      refine ⟨?_, ?_⟩
      ·
       refine ⟨_, rfl, rfl, by kernel_rfl, ?_⟩
       rintro D ⟨⟩ a z S F
       refine ⟨by kernel_rfl, ?_⟩
       exact op_pure F (v0 := .int .i64 (IntKind.wrap .i64 ((j : Nat) - 1))) (v := .int .i64 (j - 1 : Nat)) (by kernel_rfl) (wrn_i64 (by omega) (by omega) (by omega)) ⟨(), rfl, (SameB.refl _ _ rfl), S⟩
      refine ⟨?_, ?_⟩
      ·
       refine ⟨_, rfl, rfl, by kernel_rfl, ?_⟩
       rintro D ⟨⟩ a z S F
       refine ⟨by kernel_rfl, ?_⟩
       exact op_index _ 3 _ _ A X.length c (j - 1) 1 .i64 F rfl (by kernel_rfl) (by kernel_rfl) (by kernel_rfl) (by kernel_rfl) (by have h9 := get_lt ht; (try simp only [List.length_set] at h9); omega) (row_some S 0 rfl (m := j - 1) (by have h9 := get_lt ht; (try simp only [List.length_set] at h9); omega)) (⟨(), rfl, (SameB.refl _ _ rfl), S⟩)
      refine ⟨?_, ?_⟩
      ·
       refine ⟨_, rfl, rfl, by kernel_rfl, ?_⟩
       rintro D ⟨⟩ a z S F
       refine ⟨by kernel_rfl, ?_⟩
       exact op_load _ _ A ((j - 1) * 1) (.int .i64 t) F rfl (by kernel_rfl) (by kernel_rfl) (cRec S 0 iC_len_i64 rfl 0 ht rfl) (⟨(), rfl, (SameB.refl _ _ rfl), S⟩)
      refine ⟨?_, ?_⟩
      ·
       refine ⟨_, rfl, rfl, by kernel_rfl, ?_⟩
       rintro D ⟨⟩ a z S F
       refine ⟨by kernel_rfl, ?_⟩
       refine op_fn F (by kernel_rfl) (less_any _ u t) ?_
       rintro e z ⟨rfl, hb⟩
       have S := S.grow hb
       exact ⟨_, rfl, (), by rw [hb10]; rfl, (SameB.refl _ _ rfl), S⟩
      trivial
     ·
      rintro ⟨⟩ a z F S
      have F := F.sub (l := [(0, .slice A X.length c), (1, .int .i64 0), (2, .int .i64 (X.length : Nat)), (6, .int .i64 (i : Nat)), (7, .int .i64 (j : Nat)), (30, .bool true)]) ⟨by kernel_rfl, by kernel_rfl, by kernel_rfl, by kernel_rfl, by kernel_rfl, by kernel_rfl, trivial⟩
      have S : Sat w z [row 3 1 (.slice A X.length c) X.length (Y.flatMap iC_i64), rest w (fun k => k < w.heap.size ∧ ¬ Fp k)] := S
      refine then_n ?_
      refine c_t F rfl ?_
      refine wp_skip ?_
      refine then_n ?_
      refine wp_seq ?_
      refine wp_block ?_
      refine region_gx (fun D => fun (_ : Unit) => [bif D 17 then row 3 1 (.slice A X.length c) X.length (((Y.set j t).set (j - 1) u).flatMap iC_i64) else (bif D 15 then row 3 1 (.slice A X.length c) X.length ((Y.set j t).flatMap iC_i64) else row 3 1 (.slice A X.length c) X.length (Y.flatMap iC_i64)), rest w (fun k => k < w.heap.size ∧ ¬ Fp k)]) (fun (_ : Unit) => [.slice A X.length c, .int .i64 (j : Nat), .slice A X.length c, .int .i64 (j : Nat), .int .i64 (j - 1 : Nat), .slice A X.length c, .int .i64 (j : Nat), .int .i64 (j - 1 : Nat), ptrA A ((j - 1) * 1), .int .i64 t, .slice A X.length c, .int .i64 (j : Nat), ptrA A (j * 1), .int .i64 u, ptrA A (j * 1), undef, ptrA A ((j - 1) * 1), undef]) [(4, [], [16, 17]), (7, [], [8, 9, 14, 15, 16, 17]), (8, [7], [9, 14, 15, 16, 17]), (9, [7, 8], [14, 15, 16, 17]), (12, [], [13, 14, 15, 16, 17]), (13, [12], [14, 15, 16, 17]), (14, [7, 8, 9, 12, 13], [15, 16, 17]), (15, [7, 8, 9, 12, 13, 14], [16, 17]), (16, [4, 7, 8, 9, 12, 13, 14, 15], [17]), (17, [4, 7, 8, 9, 12, 13, 14, 15, 16], [])] () rfl (by kernel_rfl) (by kernel_rfl) F S.drew ?_ ?_ ?_ ?_ ?_
      · rintro ⟨⟩; rfl
      · rintro ⟨⟩; kernel_rfl
      ·
       intro D D' x h
       cases x
       simp only [h 15 (by decide), h 17 (by decide)]
      ·
       refine ⟨?_, ?_⟩
       ·
        refine ⟨_, rfl, rfl, by kernel_rfl, ?_⟩
        rintro D ⟨⟩ a z S F
        refine ⟨by kernel_rfl, ?_⟩
        exact op_pure F (v0 := .int .i64 (IntKind.wrap .i64 ((j : Nat) - 1))) (v := .int .i64 (j - 1 : Nat)) (by kernel_rfl) (wrn_i64 (by omega) (by omega) (by omega)) ⟨(), rfl, (SameB.refl _ _ rfl), S⟩
       refine ⟨?_, ?_⟩
       ·
        refine ⟨_, rfl, rfl, by kernel_rfl, ?_⟩
        rintro D ⟨⟩ a z S F
        refine ⟨by kernel_rfl, ?_⟩
        exact op_pure F (v0 := .int .i64 (IntKind.wrap .i64 ((j : Nat) - 1))) (v := .int .i64 (j - 1 : Nat)) (by kernel_rfl) (wrn_i64 (by omega) (by omega) (by omega)) ⟨(), rfl, (SameB.refl _ _ rfl), S⟩
       refine ⟨?_, ?_⟩
       ·
        refine ⟨_, rfl, rfl, by kernel_rfl, ?_⟩
        rintro D ⟨⟩ a z S F
        refine ⟨by kernel_rfl, ?_⟩
        exact op_index _ 3 _ _ A X.length c (j - 1) 1 .i64 F rfl (by kernel_rfl) (by kernel_rfl) (by kernel_rfl) (by kernel_rfl) (by have h9 := get_lt ht; (try simp only [List.length_set] at h9); omega) (row_some S 0 rfl (m := j - 1) (by have h9 := get_lt ht; (try simp only [List.length_set] at h9); omega)) (⟨(), rfl, (SameB.refl _ _ rfl), S⟩)
       refine ⟨?_, ?_⟩
       ·
        refine ⟨_, rfl, rfl, by kernel_rfl, ?_⟩
        rintro D ⟨⟩ a z S F
        refine ⟨by kernel_rfl, ?_⟩
        exact op_load _ _ A ((j - 1) * 1) (.int .i64 t) F rfl (by kernel_rfl) (by kernel_rfl) (cRec S 0 iC_len_i64 rfl 0 ht rfl) (⟨(), rfl, (SameB.refl _ _ rfl), S⟩)
       refine ⟨?_, ?_⟩
       ·
        refine ⟨_, rfl, rfl, by kernel_rfl, ?_⟩
        rintro D ⟨⟩ a z S F
        refine ⟨by kernel_rfl, ?_⟩
        exact op_index _ 3 _ _ A X.length c j 1 .i64 F rfl (by kernel_rfl) (by kernel_rfl) (by kernel_rfl) (by kernel_rfl) (by have h9 := get_lt hu; (try simp only [List.length_set] at h9); omega) (row_some S 0 rfl (m := j) (by have h9 := get_lt hu; (try simp only [List.length_set] at h9); omega)) (⟨(), rfl, (SameB.refl _ _ rfl), S⟩)
       refine ⟨?_, ?_⟩
       ·
        refine ⟨_, rfl, rfl, by kernel_rfl, ?_⟩
        rintro D ⟨⟩ a z S F
        refine ⟨by kernel_rfl, ?_⟩
        exact op_load _ _ A (j * 1) (.int .i64 u) F rfl (by kernel_rfl) (by kernel_rfl) (cRec S 0 iC_len_i64 rfl 0 hu rfl) (⟨(), rfl, (SameB.refl _ _ rfl), S⟩)
       refine ⟨?_, ?_⟩
       ·
        refine ⟨_, rfl, rfl, by kernel_rfl, ?_⟩
        rintro D ⟨⟩ a z S F
        refine ⟨by kernel_rfl, ?_⟩
        exact op_index _ 3 _ _ A X.length c j 1 .i64 F rfl (by kernel_rfl) (by kernel_rfl) (by kernel_rfl) (by kernel_rfl) (by have h9 := get_lt hu; (try simp only [List.length_set] at h9); omega) (row_some S 0 rfl (m := j) (by have h9 := get_lt hu; (try simp only [List.length_set] at h9); omega)) (⟨(), rfl, (SameB.refl _ _ rfl), S⟩)
       refine ⟨?_, ?_⟩
       ·
        refine ⟨_, rfl, rfl, by kernel_rfl, ?_⟩
        rintro D ⟨⟩ a z S F
        refine ⟨by kernel_rfl, ?_⟩
        exact op_storeRec S 0 _ _ _ A j 1 0 (.int .i64 t) t F iC_len_i64 hu rfl rfl (by kernel_rfl) (by kernel_rfl) (by kernel_rfl) (by kernel_rfl) (by kernel_rfl) (by kernel_rfl) (by kernel_rfl) fun z S => ⟨(), rfl, (SameB.refl _ _ rfl), S⟩
       refine ⟨?_, ?_⟩
       ·
        refine ⟨_, rfl, rfl, by kernel_rfl, ?_⟩
        rintro D ⟨⟩ a z S F
        refine ⟨by kernel_rfl, ?_⟩
        exact op_index _ 3 _ _ A X.length c (j - 1) 1 .i64 F rfl (by kernel_rfl) (by kernel_rfl) (by kernel_rfl) (by kernel_rfl) (by have h9 := get_lt (set_ne_at (m := j) (y := t) ht (by omega)); (try simp only [List.length_set] at h9); omega) (row_some S 0 rfl (m := j - 1) (by have h9 := get_lt (set_ne_at (m := j) (y := t) ht (by omega)); (try simp only [List.length_set] at h9); omega)) (⟨(), rfl, (SameB.refl _ _ rfl), S⟩)
       refine ⟨?_, ?_⟩
       ·
        refine ⟨_, rfl, rfl, by kernel_rfl, ?_⟩
        rintro D ⟨⟩ a z S F
        refine ⟨by kernel_rfl, ?_⟩
        exact op_storeRec S 0 _ _ _ A (j - 1) 1 0 (.int .i64 u) u F iC_len_i64 (set_ne_at (m := j) (y := t) ht (by omega)) rfl rfl (by kernel_rfl) (by kernel_rfl) (by kernel_rfl) (by kernel_rfl) (by kernel_rfl) (by kernel_rfl) (by kernel_rfl) fun z S => ⟨(), rfl, (SameB.refl _ _ rfl), S⟩
       trivial
      ·
       rintro ⟨⟩ a z F S
       have F := F.sub (l := [(0, .slice A X.length c), (1, .int .i64 0), (2, .int .i64 (X.length : Nat)), (6, .int .i64 (i : Nat)), (7, .int .i64 (j : Nat))]) ⟨by kernel_rfl, by kernel_rfl, by kernel_rfl, by kernel_rfl, by kernel_rfl, trivial⟩
       have S : Sat w z [row 3 1 (.slice A X.length c) X.length (((Y.set j t).set (j - 1) u).flatMap iC_i64), rest w (fun k => k < w.heap.size ∧ ¬ Fp k)] := S
       refine inb_n ?_
       refine then_n ?_
       refine wp_region_list ?_
       refine l_pure 1 (fun L => (31, .int .i64 (j : Nat)) :: L) F (by kernel_rfl) fun a F => ?_
       refine l_do F rfl rfl (op_pure F (v0 := .int .i64 (IntKind.wrap .i64 ((j : Nat) - 1))) (v := .int .i64 (j - 1 : Nat)) (by kernel_rfl) (wrn_i64 (by omega) (by omega) (by omega)) fun a F => ?_)
       refine l_pure 1 (fun L => (7, .int .i64 (j - 1 : Nat)) :: L) F (by kernel_rfl) fun a F => ?_
       refine l_then ?_
       exact ⟨_, (by omega), j - 1, ((Y.set j t).set (j - 1) u), rfl, (by omega), (by simp; omega), (by
           have h9 := sink_yes (j := j - 1) (X := Y) ht (by rw [show j - 1 + 1 = j from by omega]; exact hu) (of_decide_eq_true hb10)
           rw [show j - 1 + 1 = j from by omega] at h9
           rw [← h9]; exact hf8), F.sub ⟨by kernel_rfl, by kernel_rfl, by kernel_rfl, by kernel_rfl, by kernel_rfl, trivial⟩, S⟩
   ·
    skip
    refine region_gx (fun D => fun (_ : Unit) => [row 3 1 (.slice A X.length c) X.length (Y.flatMap iC_i64), rest w (fun k => k < w.heap.size ∧ ¬ Fp k)]) (fun (_ : Unit) => [.int .i64 (j : Nat), .int .i64 0, .bool false, .bool false, undef, undef, undef, undef, undef, undef, undef, undef, undef, undef, .bool false]) [(2, [], [])] () rfl (by kernel_rfl) (by kernel_rfl) F S.drew ?_ ?_ ?_ ?_ ?_
    · rintro ⟨⟩; rfl
    · rintro ⟨⟩; kernel_rfl
    ·
     intro D D' x h
     cases x
     rfl
    ·
     refine ⟨?_, ?_⟩
     ·
      refine ⟨_, rfl, rfl, by kernel_rfl, ?_⟩
      rintro D ⟨⟩ a z S F
      refine ⟨by kernel_rfl, ?_⟩
      exact op_pure F (v0 := .bool (decide (((j : Nat) : Int) > (0 : Int)))) (v := .bool false) (by kernel_rfl) (gtrF ht9) ⟨(), rfl, (SameB.refl _ _ rfl), S⟩
     trivial
    ·
     rintro ⟨⟩ a z F S
     have F := F.sub (l := [(0, .slice A X.length c), (1, .int .i64 0), (2, .int .i64 (X.length : Nat)), (6, .int .i64 (i : Nat)), (7, .int .i64 (j : Nat)), (30, .bool false)]) ⟨by kernel_rfl, by kernel_rfl, by kernel_rfl, by kernel_rfl, by kernel_rfl, by kernel_rfl, trivial⟩
     have S : Sat w z [row 3 1 (.slice A X.length c) X.length (Y.flatMap iC_i64), rest w (fun k => k < w.heap.size ∧ ¬ Fp k)] := S
     refine then_n ?_
     refine c_f F rfl ?_
     refine wp_exit ?_
     refine then_x ?_
     refine then_x ?_
     refine inb_x ?_
     refine inb_n ?_
     refine then_n ?_
     refine wp_region_list ?_
     refine l_pure 1 (fun L => (13, .int .i64 (i : Nat)) :: L) F (by kernel_rfl) fun a F => ?_
     refine l_do F rfl rfl (op_pure F (v0 := .int .i64 (IntKind.wrap .i64 ((i : Nat) + 1))) (v := .int .i64 (i + 1 : Nat)) (by kernel_rfl) (wrn_i64 (by omega) (by omega) (by omega)) fun a F => ?_)
     refine l_pure 1 (fun L => (6, .int .i64 (i + 1 : Nat)) :: L) F (by kernel_rfl) fun a F => ?_
     refine l_then ?_
     exact ⟨_, (by omega), i + 1, Y, rfl, (by omega), (by omega), (by omega), (by
         have h8 : sink i Z = Y := (by
           have hj : j = 0 := by omega
           subst hj
           exact hf8.symm)
         rw [← h8, ← hS, show X.length - i = (X.length - (i + 1)) + 1 from by omega]; rfl), F.sub ⟨by kernel_rfl, by kernel_rfl, by kernel_rfl, by kernel_rfl, trivial⟩, S⟩
  ·
   skip
   refine l_do F rfl rfl (op_pure F (v0 := .bool (decide (((i : Nat) : Int) < ((X.length : Nat) : Int)))) (v := .bool false) (by kernel_rfl) (lssF ht5) fun a F => ?_)
   refine l_then ?_
   refine c_f F rfl ?_
   refine wp_exit ?_
   refine then_x ?_
   refine then_x ?_
   refine inb_x ?_
   exact fin0 F [] [] rfl trivial (.tuple #[]) rfl ⟨rfl, by
       have hz : X.length - i = 0 := by omega
       rw [hz] at hS
       have hS : Z = isort X := hS
       rw [← hS]; exact S.toMoves⟩
set_option maxRecDepth 100000 in
set_option maxHeartbeats 4000000 in
theorem pdq_any (w : World) (A : Option Addr) (c : Nat) (X : List Int) (h1 : 1 ≤ X.length) (hl : X.length ≤ 12) (r : Int) : ∀ Fp, (row 3 1 (.slice A X.length c) X.length (X.flatMap iC_i64)).sat Fp w → Calls Try.prog 104 #[.slice A X.length c, .int .i64 0, .int .i64 (X.length : Nat), .int .i64 r] w fun e w' => e = .returned (.tuple #[]) ∧ ∃ F', (row 3 1 (.slice A X.length c) X.length ((isort X).flatMap iC_i64)).sat F' w' ∧ Moves Fp F' w w' := by
  intro Fp hF
  refine enter 134 Try.func104 rfl rfl rfl fun a F => ?_
  have S := Sat.ofOne hF
  refine s_reg ?_
  refine l_pure 1 (fun L => (8, .bool true) :: L) F (by kernel_rfl) fun a F => ?_
  refine l_then ?_
  refine s_reg ?_
  refine l_pure 1 (fun L => (9, .bool true) :: L) F (by kernel_rfl) fun a F => ?_
  refine l_then ?_
  refine wp_block ?_
  refine wp_loop_once ?_
  refine wp_block ?_
  refine s_reg ?_
  refine l_pure 2 (fun L => (20, .int .i64 0) :: (19, .int .i64 (X.length : Nat)) :: L) F (by kernel_rfl) fun a F => ?_
  refine l_do F rfl rfl (op_pure F (v0 := .int .i64 (IntKind.wrap .i64 ((X.length : Nat) - 0))) (v := .int .i64 ((X.length : Nat) - 0)) (by kernel_rfl) (wr_i64 (by omega) (by omega)) fun a F => ?_)
  refine l_pure 1 (fun L => (10, .int .i64 ((X.length : Nat) - 0)) :: L) F (by kernel_rfl) fun a F => ?_
  refine l_then ?_
  refine wp_seq ?_
  refine s_reg ?_
  refine l_pure 1 (fun L => (22, .int .i64 ((X.length : Nat) - 0)) :: L) F (by kernel_rfl) fun a F => ?_
  refine l_do F rfl rfl (op_pure F (v0 := .bool (decide (((X.length : Nat) - 0 : Int) ≤ (12 : Int)))) (v := .bool true) (by kernel_rfl) (leqT (by omega)) fun a F => ?_)
  refine l_then ?_
  refine c_t F rfl ?_
  refine s_reg ?_
  refine l_pure 3 (fun L => (26, .int .i64 (X.length : Nat)) :: (25, .int .i64 0) :: (24, .slice A X.length c) :: L) F (by kernel_rfl) fun a F => ?_
  refine l_do F rfl rfl (op_fn F (by kernel_rfl) (S.call1 (i := 0) (A' := row 3 1 (.slice A X.length c) X.length ((isort X).flatMap iC_i64)) (Q := fun e => e = .returned (.tuple #[])) rfl (fun F2 h2 _ => insertion_any _ A c X h1 (by omega) F2 h2)) ?_)
  rintro e z ⟨rfl, S⟩
  refine ⟨_, rfl, ?_⟩
  intro a F
  refine l_then ?_
  refine wp_ret ?_
  refine then_r (inb_r (then_r (inb_r (?_))))
  exact fin F [] [] rfl trivial (.tuple #[]) rfl ⟨rfl, S.toMoves⟩
set_option maxRecDepth 100000 in
set_option maxHeartbeats 4000000 in
theorem len_any (w : World) (n : Nat) (hn : n ≤ 1000) : Calls Try.prog 105 #[.int .u64 (n : Nat)] w fun e w' => e = .returned (.int .i64 (Lib.bitLen (n : Int).toNat : Nat)) ∧ Below w.heap.size w w' := by
 refine enter 8 Try.func105 rfl rfl rfl fun a F => ?_
 have S := Sat.pushRest w
 refine s_reg ?_
 refine l_pure 1 (fun L => (2, .int .i64 0) :: L) F (by kernel_rfl) fun a F => ?_
 refine l_then ?_
 refine wp_seq ?_
 refine c_f F rfl ?_
 refine wp_skip ?_
 refine then_n ?_
 refine s_reg ?_
 refine l_pure 1 (fun L => (6, .int .u64 (n : Nat)) :: L) F (by kernel_rfl) fun a F => ?_
 refine l_do F rfl rfl (op_fn F (by kernel_rfl) (len64_any (n : Nat) _ (by omega) (by omega)) ?_)
 rintro e z ⟨rfl, hw⟩
 first | subst hw | (have hw := hw.symm; subst hw)
 refine ⟨_, rfl, ?_⟩
 intro a F
 refine l_pure 1 (fun L => (2, .int .i64 (Lib.bitLen (n : Int).toNat : Nat)) :: L) F (by kernel_rfl) fun a F => ?_
 refine l_then ?_
 refine wp_ret ?_
 exact fin F [.tmp 2] [.int .i64 (Lib.bitLen (n : Int).toNat : Nat)] rfl ⟨by kernel_rfl, trivial⟩ (.int .i64 (Lib.bitLen (n : Int).toNat : Nat)) rfl ⟨rfl, S.below (i := 0) rfl⟩
set_option maxRecDepth 100000 in
set_option maxHeartbeats 4000000 in
theorem sort_any (w : World) (A : Option Addr) (c : Nat) (X : List Int) (h1 : 1 ≤ X.length) (hl : X.length ≤ 12) : ∀ Fp, (row 3 1 (.slice A X.length c) X.length (X.flatMap iC_i64)).sat Fp w → Calls Try.prog 80 #[.slice A X.length c] w fun e w' => e = .returned (.tuple #[]) ∧ ∃ F', (row 3 1 (.slice A X.length c) X.length ((isort X).flatMap iC_i64)).sat F' w' ∧ Moves Fp F' w w' := by
  intro Fp hF
  refine enter 11 Try.func80 rfl rfl rfl fun a F => ?_
  have S := Sat.ofOne hF
  refine s_reg ?_
  refine l_pure 3 (fun L => (2, .int .i64 (X.length : Nat)) :: (4, .int .i64 (X.length : Nat)) :: (3, .slice A X.length c) :: L) F (by kernel_rfl) fun a F => ?_
  refine l_then ?_
  refine wp_region_list ?_
  refine l_pure 3 (fun L => (7, .int .i64 (X.length : Nat)) :: (6, .int .i64 (X.length : Nat)) :: (5, .slice A X.length c) :: L) F (by kernel_rfl) fun a F => ?_
  refine l_do F rfl rfl (op_pure F (v0 := .int .u64 (IntKind.wrap .u64 (X.length : Nat))) (v := .int .u64 (X.length : Nat)) (by kernel_rfl) (wr_u64 (by omega) (by omega)) fun a F => ?_)
  refine l_do F rfl rfl (op_fn F (by kernel_rfl) (len_any _ X.length (by omega)) ?_)
  rintro e z ⟨rfl, hb⟩
  have S := S.grow hb
  refine ⟨_, rfl, ?_⟩
  intro a F
  refine l_do F rfl rfl (op_fn F (by kernel_rfl) (S.call1 (i := 0) (A' := row 3 1 (.slice A X.length c) X.length ((isort X).flatMap iC_i64)) (Q := fun e => e = .returned (.tuple #[])) rfl (fun F2 h2 _ => pdq_any _ A c X h1 hl (Lib.bitLen (X.length : Int).toNat : Nat) F2 h2)) ?_)
  rintro e z ⟨rfl, S⟩
  refine ⟨_, rfl, ?_⟩
  intro a F
  refine l_nil ?_
  exact fin0 F [] [] rfl trivial (.tuple #[]) rfl ⟨rfl, S.toMoves⟩
end Go.Proofs.Ytcfpbemoocegfaa
