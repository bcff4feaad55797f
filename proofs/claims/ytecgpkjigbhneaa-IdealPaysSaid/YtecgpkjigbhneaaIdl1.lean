/- Walks over the program's ideal: accounts and channels. -/
import Derived.Test.YtecgpkjigbhneaaIdl
import Derived.Test.YtecgpkjigbhneaaIdlR
namespace Go.Proofs.Ytecgpkjigbhneaa
set_option linter.unusedVariables false
set_option linter.unusedSimpArgs false
set_option linter.unnecessarySimpa false
open Go Go.RowKit

/-- Where a number stands in a list. -/
def ixF : Nat → List Int → Int → Int
  | i, a :: l, v => if v = a then (i : Int) else ixF (i + 1) l v
  | _, [], _ => -1
theorem ixF_drop {X : List Int} {i : Nat} {a v : Int} (h : X[i]? = some a) : ixF i (X.drop i) v = if v = a then (i : Int) else ixF (i + 1) (X.drop (i + 1)) v := by
  obtain ⟨hi, rfl⟩ := List.getElem?_eq_some_iff.1 h
  rw [List.drop_eq_getElem_cons hi]; rfl
theorem ixF_mem : ∀ (X : List Int) (i : Nat) (v : Int), (0 ≤ ixF i X v ↔ v ∈ X)
  | [], i, v => by simp [ixF]
  | a :: X, i, v => by
    unfold ixF
    split
    · rename_i h; subst h; simp
    · rename_i h; rw [ixF_mem X (i + 1) v]; simp [h]

set_option maxRecDepth 100000 in
set_option maxHeartbeats 4000000 in
theorem index24_any (w : World) (A : Option Addr) (c : Nat) (X : List Int) (hX : Recs 1 iC_i64 w A c X) (hl : X.length ≤ 1000) (v : Int) : Calls Try.prog 42 #[.slice A X.length c, .int .i64 v] w fun e w' => e = .returned (.int .i64 (ixF 0 X v)) ∧ Below w.heap.size w w' := by
 refine enter 19 Try.func42 rfl rfl rfl fun a F => ?_
 have S := Sat.pushRest w
 refine s_reg ?_
 refine l_pure 1 (fun L => (4, .int .i64 0) :: L) F (by kernel_rfl) fun a F => ?_
 refine l_then ?_
 refine wp_seq ?_
 refine s_reg ?_
 refine l_pure 3 (fun L => (8, .int .i64 0) :: (7, .int .i64 (X.length : Nat)) :: (6, .slice A X.length c) :: L) F (by kernel_rfl) fun a F => ?_
 refine l_then ?_
 refine wp_block ?_
 refine wp_loop_m (fun m a z => ∃ (i : Nat), m = X.length - i ∧ (i ≤ X.length) ∧ (ixF i (X.drop i) v = ixF 0 X v) ∧ Fr a 19 [(0, .slice A X.length c), (1, .int .i64 v), (7, .int .i64 (X.length : Nat)), (8, .int .i64 (i : Nat))] ∧ Sat w z [rest w (· < w.heap.size)]) _ ⟨0, rfl, Nat.zero_le _, rfl, F.sub ⟨by kernel_rfl, by kernel_rfl, by kernel_rfl, by kernel_rfl, trivial⟩, S⟩ ?_
 rintro m a z ⟨i, hm, hf1, hf2, F, S⟩
 have hix := hf2
 refine s_reg ?_
 by_cases ht3 : ((i : Nat) : Int) < ((X.length : Nat) : Int)
 ·
  skip
  obtain ⟨xi, hxi⟩ : ∃ xi, X[i]? = some xi := ⟨_, List.getElem?_eq_getElem (by omega)⟩
  rw [ixF_drop hxi] at hix
  refine l_do F rfl rfl (op_pure F (v0 := .bool (decide (((i : Nat) : Int) < ((X.length : Nat) : Int)))) (v := .bool true) (by kernel_rfl) (lssT ht3) fun a F => ?_)
  refine l_then ?_
  refine wp_seq ?_
  refine c_t F rfl ?_
  refine wp_skip ?_
  refine then_n ?_
  refine wp_seq ?_
  refine wp_block ?_
  refine s_reg ?_
  refine l_pure 2 (fun L => (5, .int .i64 (i : Nat)) :: (10, .int .i64 (i : Nat)) :: L) F (by kernel_rfl) fun a F => ?_
  refine l_then ?_
  refine s_reg ?_
  refine l_pure 3 (fun L => (13, .int .i64 (i : Nat)) :: (12, .slice A X.length c) :: (11, .int .i64 v) :: L) F (by kernel_rfl) fun a F => ?_
  refine l_do F rfl rfl (op_index _ 3 _ _ A X.length c i 1 .i64 F rfl (by kernel_rfl) (by kernel_rfl) (by kernel_rfl) (by kernel_rfl) (get_lt hxi) (recs_some hX (m := i) (get_lt hxi)) (fun a F => ?_))
  refine l_do F rfl rfl (op_load _ _ A (i * 1) (.int .i64 xi) F rfl (by kernel_rfl) (by kernel_rfl) (cOld S 0 iC_len_i64 hX rfl 0 hxi rfl) (fun a F => ?_))
  by_cases ht4 : (v : Int) = (xi : Int)
  ·
   skip
   refine l_do F rfl rfl (op_pure F (v0 := .bool ((v : Int) == (xi : Int))) (v := .bool true) (by kernel_rfl) (eqlT ht4) fun a F => ?_)
   refine l_then ?_
   refine c_t F rfl ?_
   refine s_reg ?_
   refine l_pure 2 (fun L => (4, .int .i64 (i : Nat)) :: (17, .int .i64 (i : Nat)) :: L) F (by kernel_rfl) fun a F => ?_
   refine l_then ?_
   refine wp_ret ?_
   refine inb_r (then_r (then_r (inb_r (then_r (?_)))))
   exact fin F [.tmp 4] [.int .i64 (i : Nat)] rfl ⟨by kernel_rfl, trivial⟩ (.int .i64 (i : Nat)) rfl ⟨by rw [← hix, if_pos ht4], S.below (i := 0) rfl⟩
  ·
   skip
   refine l_do F rfl rfl (op_pure F (v0 := .bool ((v : Int) == (xi : Int))) (v := .bool false) (by kernel_rfl) (eqlF ht4) fun a F => ?_)
   refine l_then ?_
   refine c_f F rfl ?_
   refine wp_skip ?_
   refine inb_n ?_
   refine then_n ?_
   refine wp_region_list ?_
   refine l_do F rfl rfl (op_pure F (v0 := .int .i64 (IntKind.wrap .i64 ((i : Nat) + 1))) (v := .int .i64 (i + 1 : Nat)) (by kernel_rfl) (wrn_i64 (by omega) (by omega) (by omega)) fun a F => ?_)
   refine l_pure 1 (fun L => (8, .int .i64 (i + 1 : Nat)) :: L) F (by kernel_rfl) fun a F => ?_
   refine l_then ?_
   exact ⟨_, (by omega), i + 1, rfl, (by omega), (by rw [← hix, if_neg ht4]), F.sub ⟨by kernel_rfl, by kernel_rfl, by kernel_rfl, by kernel_rfl, trivial⟩, S⟩
 ·
  skip
  have hi : i = X.length := by omega
  refine l_do F rfl rfl (op_pure F (v0 := .bool (decide (((i : Nat) : Int) < ((X.length : Nat) : Int)))) (v := .bool false) (by kernel_rfl) (lssF ht3) fun a F => ?_)
  refine l_then ?_
  refine wp_seq ?_
  refine c_f F rfl ?_
  refine wp_exit ?_
  refine then_x ?_
  refine then_x ?_
  refine inb_x ?_
  refine then_n ?_
  refine s_reg ?_
  refine l_pure 1 (fun L => (4, .int .i64 (-1)) :: L) F (by kernel_rfl) fun a F => ?_
  refine l_then ?_
  refine wp_ret ?_
  exact fin F [.tmp 4] [.int .i64 (-1)] rfl ⟨by kernel_rfl, trivial⟩ (.int .i64 (-1)) rfl ⟨by rw [← hix, hi, List.drop_length]; rfl, S.below (i := 0) rfl⟩
set_option maxRecDepth 100000 in
set_option maxHeartbeats 4000000 in
theorem contains24_any (w : World) (A : Option Addr) (c : Nat) (X : List Int) (hX : Recs 1 iC_i64 w A c X) (hl : X.length ≤ 1000) (v : Int) : Calls Try.prog 40 #[.slice A X.length c, .int .i64 v] w fun e w' => e = .returned (.bool (decide (v ∈ X))) ∧ Below w.heap.size w w' := by
 refine enter 9 Try.func40 rfl rfl rfl fun a F => ?_
 have S := Sat.pushRest w
 refine s_reg ?_
 refine l_pure 1 (fun L => (4, .bool false) :: L) F (by kernel_rfl) fun a F => ?_
 refine l_then ?_
 refine s_reg ?_
 refine l_pure 2 (fun L => (6, .int .i64 v) :: (5, .slice A X.length c) :: L) F (by kernel_rfl) fun a F => ?_
 refine l_do F rfl rfl (op_fn F (by kernel_rfl) (index24_any _ A c X (hX.mono (src_rest S (i := 0) rfl hX.src (src_lt hX.src))) hl v) ?_)
 rintro e z ⟨rfl, hb⟩
 have S := S.grow hb
 refine ⟨_, rfl, ?_⟩
 intro a F
 by_cases ht1 : (0 : Int) ≤ (ixF 0 X v : Int)
 ·
  skip
  refine l_do F rfl rfl (op_pure F (v0 := .bool (decide ((ixF 0 X v : Int) ≥ (0 : Int)))) (v := .bool true) (by kernel_rfl) (geqT ht1) fun a F => ?_)
  refine l_pure 1 (fun L => (4, .bool true) :: L) F (by kernel_rfl) fun a F => ?_
  refine l_then ?_
  refine wp_ret ?_
  exact fin F [.tmp 4] [.bool true] rfl ⟨by kernel_rfl, trivial⟩ (.bool true) rfl ⟨by rw [show decide (v ∈ X) = true from decide_eq_true ((ixF_mem X 0 v).1 ht1)], S.below (i := 0) rfl⟩
 ·
  skip
  refine l_do F rfl rfl (op_pure F (v0 := .bool (decide ((ixF 0 X v : Int) ≥ (0 : Int)))) (v := .bool false) (by kernel_rfl) (geqF ht1) fun a F => ?_)
  refine l_pure 1 (fun L => (4, .bool false) :: L) F (by kernel_rfl) fun a F => ?_
  refine l_then ?_
  refine wp_ret ?_
  exact fin F [.tmp 4] [.bool false] rfl ⟨by kernel_rfl, trivial⟩ (.bool false) rfl ⟨by rw [show decide (v ∈ X) = false from decide_eq_false (fun h9 => ht1 ((ixF_mem X 0 v).2 h9))], S.below (i := 0) rfl⟩
set_option maxRecDepth 100000 in
set_option maxHeartbeats 4000000 in
theorem in24_any (w : World) (G : Nat → Prop) (b : Nat) (Ae : Option Addr) (ne ce : Nat) (Af : Option Addr) (nf cf : Nat) (r : Nat) (Ah : Option Addr) (nh ch : Nat) (who : Int) (hS : Sat w w [box b 61 [.slice Ae ne ce, .slice Af nf cf, .map (some r), .slice Ah nh ch], rest w G]) : Calls Try.prog 27 #[.pointer (some ⟨b, 0, none⟩), .int .i64 who] w fun e w' => e = .returned (.bool (inB nh who)) ∧ Sat w w' [box b 61 [.slice Ae ne ce, .slice Af nf cf, .map (some r), .slice Ah nh ch], rest w G] := by
 refine enter 16 Try.func27 rfl rfl rfl fun a F => ?_
 have S : Sat w w [rest w G, box b 61 [.slice Ae ne ce, .slice Af nf cf, .map (some r), .slice Ah nh ch]] := hS.pick [1, 0] (by decide)
 refine s_reg ?_
 refine l_pure 1 (fun L => (4, .bool false) :: L) F (by kernel_rfl) fun a F => ?_
 refine l_then ?_
 refine s_reg ?_
 refine l_pure 1 (fun L => (5, .int .i64 who) :: L) F (by kernel_rfl) fun a F => ?_
 by_cases ht1 : (0 : Int) ≤ (who : Int)
 ·
  skip
  refine l_do F rfl rfl (op_pure F (v0 := .bool (decide ((who : Int) ≥ (0 : Int)))) (v := .bool true) (by kernel_rfl) (geqT ht1) fun a F => ?_)
  refine l_pure 5 (fun L => (11, .pointer (some ⟨b, 3, none⟩)) :: (10, .pointer (some ⟨b, 0, none⟩)) :: (9, .pointer (some ⟨b, 0, none⟩)) :: (8, .int .i64 who) :: (7, .bool true) :: L) F (by kernel_rfl) fun a F => ?_
  refine l_do F rfl rfl (op_load _ _ (some ⟨b, 0, none⟩) 3 (.slice Ah nh ch) F rfl (by kernel_rfl) (by kernel_rfl) (cBox S 1 rfl (j := 3) rfl) (fun a F => ?_))
  refine l_pure 1 (fun L => (13, .int .i64 (nh : Nat)) :: L) F (by kernel_rfl) fun a F => ?_
  by_cases ht2 : (who : Int) < ((nh : Nat) : Int)
  ·
   skip
   refine l_do F rfl rfl (op_pure F (v0 := .bool (decide ((who : Int) < ((nh : Nat) : Int)))) (v := .bool true) (by kernel_rfl) (lssT ht2) fun a F => ?_)
   refine l_pure 2 (fun L => (4, .bool true) :: (15, .bool true) :: L) F (by kernel_rfl) fun a F => ?_
   refine l_then ?_
   refine wp_ret ?_
   exact fin F [.tmp 4] [.bool true] rfl ⟨by kernel_rfl, trivial⟩ (.bool true) rfl ⟨by rw [show inB nh who = true from decide_eq_true (by omega)], S.pick [1, 0] (by decide)⟩
  ·
   skip
   refine l_do F rfl rfl (op_pure F (v0 := .bool (decide ((who : Int) < ((nh : Nat) : Int)))) (v := .bool false) (by kernel_rfl) (lssF ht2) fun a F => ?_)
   refine l_pure 2 (fun L => (4, .bool false) :: (15, .bool false) :: L) F (by kernel_rfl) fun a F => ?_
   refine l_then ?_
   refine wp_ret ?_
   exact fin F [.tmp 4] [.bool false] rfl ⟨by kernel_rfl, trivial⟩ (.bool false) rfl ⟨by rw [show inB nh who = false from decide_eq_false (by omega)], S.pick [1, 0] (by decide)⟩
 ·
  skip
  refine l_do F rfl rfl (op_pure F (v0 := .bool (decide ((who : Int) ≥ (0 : Int)))) (v := .bool false) (by kernel_rfl) (geqF ht1) fun a F => ?_)
  refine l_pure 10 (fun L => (4, .bool false) :: (15, .bool false) :: (14, undef) :: (13, undef) :: (12, undef) :: (11, undef) :: (10, undef) :: (9, undef) :: (8, undef) :: (7, .bool false) :: L) F (by kernel_rfl) fun a F => ?_
  refine l_then ?_
  refine wp_ret ?_
  exact fin F [.tmp 4] [.bool false] rfl ⟨by kernel_rfl, trivial⟩ (.bool false) rfl ⟨by rw [show inB nh who = false from decide_eq_false (by omega)], S.pick [1, 0] (by decide)⟩
theorem ix_at {X : List Int} {a v : Int} (h : ixF 0 X a = v) (w : World) (A : Option Addr) (c : Nat) (hX : Recs 1 iC_i64 w A c X) (hl : X.length ≤ 1000) : Calls Try.prog 42 #[.slice A X.length c, .int .i64 a] w fun e w' => e = .returned (.int .i64 v) ∧ Below w.heap.size w w' := h ▸ index24_any w A c X hX hl a
set_option maxRecDepth 100000 in
set_option maxHeartbeats 4000000 in
theorem side24_any (w : World) (G : Nat → Prop) (b : Nat) (Ae : Option Addr) (ce : Nat) (Af : Option Addr) (nf cf : Nat) (r : Nat) (Ah : Option Addr) (nh ch : Nat) (X : List (Nat × Nat)) (cid who : Int) (hS : Sat w w [box b 61 [.slice Ae X.length ce, .slice Af nf cf, .map (some r), .slice Ah nh ch], rEl Ae ce X, rest w G]) : Calls Try.prog 28 #[.pointer (some ⟨b, 0, none⟩), .int .i64 cid, .int .i64 who] w fun e w' => e = .returned (.tuple #[.int .i64 (sideP24 X cid who).1, .int .i64 (sideP24 X cid who).2]) ∧ Sat w w' [box b 61 [.slice Ae X.length ce, .slice Af nf cf, .map (some r), .slice Ah nh ch], rEl Ae ce X, rest w G] := by
 refine enter 36 Try.func28 rfl rfl rfl fun a F => ?_
 have S : Sat w w [rest w G, box b 61 [.slice Ae X.length ce, .slice Af nf cf, .map (some r), .slice Ah nh ch], rEl Ae ce X] := hS.pick [2, 0, 1] (by decide)
 refine s_reg ?_
 refine l_pure 2 (fun L => (7, .int .i64 0) :: (6, .int .i64 0) :: L) F (by kernel_rfl) fun a F => ?_
 refine l_then ?_
 refine wp_seq ?_
 refine wp_block ?_
 refine s_reg ?_
 refine l_pure 3 (fun L => (9, .bool false) :: (11, .bool false) :: (10, .pointer (some ⟨b, 0, none⟩)) :: L) F (by kernel_rfl) fun a F => ?_
 refine l_then ?_
 refine c_f F rfl ?_
 refine s_reg ?_
 refine l_pure 1 (fun L => (13, .int .i64 cid) :: L) F (by kernel_rfl) fun a F => ?_
 rcases side_cases24 X cid who with ⟨hsd, hbad⟩ | ⟨nn, pa, qa, rfl, rfl, he, hsd⟩ | ⟨nn, pa, qa, rfl, rfl, he, hpq, hsd⟩ | ⟨nn, pa, qa, rfl, he, hw1, hw2, hsd⟩
 ·
  skip
  by_cases ht1 : (cid : Int) < (0 : Int)
  ·
   skip
   refine l_do F rfl rfl (op_pure F (v0 := .bool (decide ((cid : Int) < (0 : Int)))) (v := .bool true) (by kernel_rfl) (lssT ht1) fun a F => ?_)
   refine l_pure 10 (fun L => (12, .bool true) :: (23, .bool true) :: (22, undef) :: (21, undef) :: (20, undef) :: (19, undef) :: (18, undef) :: (17, undef) :: (16, undef) :: (15, .bool true) :: L) F (by kernel_rfl) fun a F => ?_
   refine l_then ?_
   refine c_t F rfl ?_
   refine s_reg ?_
   refine l_pure 2 (fun L => (7, .int .i64 6) :: (6, .int .i64 0) :: L) F (by kernel_rfl) fun a F => ?_
   refine l_then ?_
   refine wp_ret ?_
   refine inb_r (then_r (?_))
   exact fin F [.tmp 6, .tmp 7] [.int .i64 0, .int .i64 6] rfl ⟨by kernel_rfl, by kernel_rfl, trivial⟩ (.tuple #[.int .i64 0, .int .i64 6]) rfl ⟨by rw [hsd], S.pick [1, 2, 0] (by decide)⟩
  ·
   skip
   refine l_do F rfl rfl (op_pure F (v0 := .bool (decide ((cid : Int) < (0 : Int)))) (v := .bool false) (by kernel_rfl) (lssF ht1) fun a F => ?_)
   refine l_pure 5 (fun L => (19, .pointer (some ⟨b, 0, none⟩)) :: (18, .pointer (some ⟨b, 0, none⟩)) :: (17, .pointer (some ⟨b, 0, none⟩)) :: (16, .int .i64 cid) :: (15, .bool false) :: L) F (by kernel_rfl) fun a F => ?_
   refine l_do F rfl rfl (op_load _ _ (some ⟨b, 0, none⟩) 0 (.slice Ae X.length ce) F rfl (by kernel_rfl) (by kernel_rfl) (cBox S 1 rfl (j := 0) rfl) (fun a F => ?_))
   refine l_pure 1 (fun L => (21, .int .i64 (X.length : Nat)) :: L) F (by kernel_rfl) fun a F => ?_
   refine l_do F rfl rfl (op_pure F (v0 := .bool (decide ((cid : Int) ≥ ((X.length : Nat) : Int)))) (v := .bool true) (by kernel_rfl) (geqT (by omega)) fun a F => ?_)
   refine l_pure 2 (fun L => (12, .bool true) :: (23, .bool true) :: L) F (by kernel_rfl) fun a F => ?_
   refine l_then ?_
   refine c_t F rfl ?_
   refine s_reg ?_
   refine l_pure 2 (fun L => (7, .int .i64 6) :: (6, .int .i64 0) :: L) F (by kernel_rfl) fun a F => ?_
   refine l_then ?_
   refine wp_ret ?_
   refine inb_r (then_r (?_))
   exact fin F [.tmp 6, .tmp 7] [.int .i64 0, .int .i64 6] rfl ⟨by kernel_rfl, by kernel_rfl, trivial⟩ (.tuple #[.int .i64 0, .int .i64 6]) rfl ⟨by rw [hsd], S.pick [1, 2, 0] (by decide)⟩
 ·
  skip
  have hnn := (List.getElem?_eq_some_iff.1 he).1
  refine l_do F rfl rfl (op_pure F (v0 := .bool (decide (((nn : Nat) : Int) < (0 : Int)))) (v := .bool false) (by kernel_rfl) (lssF (by omega)) fun a F => ?_)
  refine l_pure 5 (fun L => (19, .pointer (some ⟨b, 0, none⟩)) :: (18, .pointer (some ⟨b, 0, none⟩)) :: (17, .pointer (some ⟨b, 0, none⟩)) :: (16, .int .i64 (nn : Nat)) :: (15, .bool false) :: L) F (by kernel_rfl) fun a F => ?_
  refine l_do F rfl rfl (op_load _ _ (some ⟨b, 0, none⟩) 0 (.slice Ae X.length ce) F rfl (by kernel_rfl) (by kernel_rfl) (cBox S 1 rfl (j := 0) rfl) (fun a F => ?_))
  refine l_pure 1 (fun L => (21, .int .i64 (X.length : Nat)) :: L) F (by kernel_rfl) fun a F => ?_
  refine l_do F rfl rfl (op_pure F (v0 := .bool (decide (((nn : Nat) : Int) ≥ ((X.length : Nat) : Int)))) (v := .bool false) (by kernel_rfl) (geqF (by omega)) fun a F => ?_)
  refine l_pure 2 (fun L => (12, .bool false) :: (23, .bool false) :: L) F (by kernel_rfl) fun a F => ?_
  refine l_then ?_
  refine c_f F rfl ?_
  refine wp_skip ?_
  refine inb_n ?_
  refine then_n ?_
  refine wp_seq ?_
  refine s_reg ?_
  refine l_pure 3 (fun L => (26, .pointer (some ⟨b, 0, none⟩)) :: (25, .pointer (some ⟨b, 0, none⟩)) :: (24, .pointer (some ⟨b, 0, none⟩)) :: L) F (by kernel_rfl) fun a F => ?_
  refine l_do F rfl rfl (op_load _ _ (some ⟨b, 0, none⟩) 0 (.slice Ae X.length ce) F rfl (by kernel_rfl) (by kernel_rfl) (cBox S 1 rfl (j := 0) rfl) (fun a F => ?_))
  refine l_pure 1 (fun L => (28, .int .i64 (nn : Nat)) :: L) F (by kernel_rfl) fun a F => ?_
  refine l_do F rfl rfl (op_index _ 63 _ _ Ae X.length ce nn 2 .i64 F rfl (by kernel_rfl) (by kernel_rfl) (by kernel_rfl) (by kernel_rfl) (get_lt he) (row_some S 2 rfl (m := nn) (get_lt he)) (fun a F => ?_))
  refine l_do F rfl rfl (op_sliceArr _ 3 _ Ae (nn * 2) 2 1 F rfl (by kernel_rfl) (by kernel_rfl) (by kernel_rfl) (by decide) (row_some S 2 rfl (m := nn) (get_lt he)) (fun a F => ?_))
  refine l_pure 1 (fun L => (31, .int .i64 (pa : Nat)) :: L) F (by kernel_rfl) fun a F => ?_
  refine l_do F rfl rfl (op_fn F (by kernel_rfl) (ix_at (X := [((pa : Nat) : Int), ((qa : Nat) : Int)]) (a := (pa : Nat)) (v := 0) (by simp [ixF]) _ _ _ (ends_recs S 2 rfl he) (by simp)) ?_)
  rintro e z ⟨rfl, hb⟩
  have S := S.grow hb
  refine ⟨_, rfl, ?_⟩
  intro a F
  refine l_pure 1 (fun L => (8, .int .i64 0) :: L) F (by kernel_rfl) fun a F => ?_
  refine l_then ?_
  refine s_reg ?_
  refine l_pure 2 (fun L => (34, .bool true) :: (33, .int .i64 0) :: L) F (by kernel_rfl) fun a F => ?_
  refine l_then ?_
  refine c_t F rfl ?_
  refine s_reg ?_
  refine l_pure 3 (fun L => (7, .int .i64 0) :: (6, .int .i64 0) :: (35, .int .i64 0) :: L) F (by kernel_rfl) fun a F => ?_
  refine l_then ?_
  refine wp_ret ?_
  refine then_r (?_)
  exact fin F [.tmp 6, .tmp 7] [.int .i64 0, .int .i64 0] rfl ⟨by kernel_rfl, by kernel_rfl, trivial⟩ (.tuple #[.int .i64 0, .int .i64 0]) rfl ⟨by rw [hsd], S.pick [1, 2, 0] (by decide)⟩
 ·
  skip
  have hnn := (List.getElem?_eq_some_iff.1 he).1
  refine l_do F rfl rfl (op_pure F (v0 := .bool (decide (((nn : Nat) : Int) < (0 : Int)))) (v := .bool false) (by kernel_rfl) (lssF (by omega)) fun a F => ?_)
  refine l_pure 5 (fun L => (19, .pointer (some ⟨b, 0, none⟩)) :: (18, .pointer (some ⟨b, 0, none⟩)) :: (17, .pointer (some ⟨b, 0, none⟩)) :: (16, .int .i64 (nn : Nat)) :: (15, .bool false) :: L) F (by kernel_rfl) fun a F => ?_
  refine l_do F rfl rfl (op_load _ _ (some ⟨b, 0, none⟩) 0 (.slice Ae X.length ce) F rfl (by kernel_rfl) (by kernel_rfl) (cBox S 1 rfl (j := 0) rfl) (fun a F => ?_))
  refine l_pure 1 (fun L => (21, .int .i64 (X.length : Nat)) :: L) F (by kernel_rfl) fun a F => ?_
  refine l_do F rfl rfl (op_pure F (v0 := .bool (decide (((nn : Nat) : Int) ≥ ((X.length : Nat) : Int)))) (v := .bool false) (by kernel_rfl) (geqF (by omega)) fun a F => ?_)
  refine l_pure 2 (fun L => (12, .bool false) :: (23, .bool false) :: L) F (by kernel_rfl) fun a F => ?_
  refine l_then ?_
  refine c_f F rfl ?_
  refine wp_skip ?_
  refine inb_n ?_
  refine then_n ?_
  refine wp_seq ?_
  refine s_reg ?_
  refine l_pure 3 (fun L => (26, .pointer (some ⟨b, 0, none⟩)) :: (25, .pointer (some ⟨b, 0, none⟩)) :: (24, .pointer (some ⟨b, 0, none⟩)) :: L) F (by kernel_rfl) fun a F => ?_
  refine l_do F rfl rfl (op_load _ _ (some ⟨b, 0, none⟩) 0 (.slice Ae X.length ce) F rfl (by kernel_rfl) (by kernel_rfl) (cBox S 1 rfl (j := 0) rfl) (fun a F => ?_))
  refine l_pure 1 (fun L => (28, .int .i64 (nn : Nat)) :: L) F (by kernel_rfl) fun a F => ?_
  refine l_do F rfl rfl (op_index _ 63 _ _ Ae X.length ce nn 2 .i64 F rfl (by kernel_rfl) (by kernel_rfl) (by kernel_rfl) (by kernel_rfl) (get_lt he) (row_some S 2 rfl (m := nn) (get_lt he)) (fun a F => ?_))
  refine l_do F rfl rfl (op_sliceArr _ 3 _ Ae (nn * 2) 2 1 F rfl (by kernel_rfl) (by kernel_rfl) (by kernel_rfl) (by decide) (row_some S 2 rfl (m := nn) (get_lt he)) (fun a F => ?_))
  refine l_pure 1 (fun L => (31, .int .i64 (qa : Nat)) :: L) F (by kernel_rfl) fun a F => ?_
  refine l_do F rfl rfl (op_fn F (by kernel_rfl) (ix_at (X := [((pa : Nat) : Int), ((qa : Nat) : Int)]) (a := (qa : Nat)) (v := 1) (by unfold ixF; rw [if_neg (by omega)]; unfold ixF; rw [if_pos rfl]; rfl) _ _ _ (ends_recs S 2 rfl he) (by simp)) ?_)
  rintro e z ⟨rfl, hb⟩
  have S := S.grow hb
  refine ⟨_, rfl, ?_⟩
  intro a F
  refine l_pure 1 (fun L => (8, .int .i64 1) :: L) F (by kernel_rfl) fun a F => ?_
  refine l_then ?_
  refine s_reg ?_
  refine l_pure 2 (fun L => (34, .bool true) :: (33, .int .i64 1) :: L) F (by kernel_rfl) fun a F => ?_
  refine l_then ?_
  refine c_t F rfl ?_
  refine s_reg ?_
  refine l_pure 3 (fun L => (7, .int .i64 0) :: (6, .int .i64 1) :: (35, .int .i64 1) :: L) F (by kernel_rfl) fun a F => ?_
  refine l_then ?_
  refine wp_ret ?_
  refine then_r (?_)
  exact fin F [.tmp 6, .tmp 7] [.int .i64 1, .int .i64 0] rfl ⟨by kernel_rfl, by kernel_rfl, trivial⟩ (.tuple #[.int .i64 1, .int .i64 0]) rfl ⟨by rw [hsd], S.pick [1, 2, 0] (by decide)⟩
 ·
  skip
  have hnn := (List.getElem?_eq_some_iff.1 he).1
  refine l_do F rfl rfl (op_pure F (v0 := .bool (decide (((nn : Nat) : Int) < (0 : Int)))) (v := .bool false) (by kernel_rfl) (lssF (by omega)) fun a F => ?_)
  refine l_pure 5 (fun L => (19, .pointer (some ⟨b, 0, none⟩)) :: (18, .pointer (some ⟨b, 0, none⟩)) :: (17, .pointer (some ⟨b, 0, none⟩)) :: (16, .int .i64 (nn : Nat)) :: (15, .bool false) :: L) F (by kernel_rfl) fun a F => ?_
  refine l_do F rfl rfl (op_load _ _ (some ⟨b, 0, none⟩) 0 (.slice Ae X.length ce) F rfl (by kernel_rfl) (by kernel_rfl) (cBox S 1 rfl (j := 0) rfl) (fun a F => ?_))
  refine l_pure 1 (fun L => (21, .int .i64 (X.length : Nat)) :: L) F (by kernel_rfl) fun a F => ?_
  refine l_do F rfl rfl (op_pure F (v0 := .bool (decide (((nn : Nat) : Int) ≥ ((X.length : Nat) : Int)))) (v := .bool false) (by kernel_rfl) (geqF (by omega)) fun a F => ?_)
  refine l_pure 2 (fun L => (12, .bool false) :: (23, .bool false) :: L) F (by kernel_rfl) fun a F => ?_
  refine l_then ?_
  refine c_f F rfl ?_
  refine wp_skip ?_
  refine inb_n ?_
  refine then_n ?_
  refine wp_seq ?_
  refine s_reg ?_
  refine l_pure 3 (fun L => (26, .pointer (some ⟨b, 0, none⟩)) :: (25, .pointer (some ⟨b, 0, none⟩)) :: (24, .pointer (some ⟨b, 0, none⟩)) :: L) F (by kernel_rfl) fun a F => ?_
  refine l_do F rfl rfl (op_load _ _ (some ⟨b, 0, none⟩) 0 (.slice Ae X.length ce) F rfl (by kernel_rfl) (by kernel_rfl) (cBox S 1 rfl (j := 0) rfl) (fun a F => ?_))
  refine l_pure 1 (fun L => (28, .int .i64 (nn : Nat)) :: L) F (by kernel_rfl) fun a F => ?_
  refine l_do F rfl rfl (op_index _ 63 _ _ Ae X.length ce nn 2 .i64 F rfl (by kernel_rfl) (by kernel_rfl) (by kernel_rfl) (by kernel_rfl) (get_lt he) (row_some S 2 rfl (m := nn) (get_lt he)) (fun a F => ?_))
  refine l_do F rfl rfl (op_sliceArr _ 3 _ Ae (nn * 2) 2 1 F rfl (by kernel_rfl) (by kernel_rfl) (by kernel_rfl) (by decide) (row_some S 2 rfl (m := nn) (get_lt he)) (fun a F => ?_))
  refine l_pure 1 (fun L => (31, .int .i64 who) :: L) F (by kernel_rfl) fun a F => ?_
  refine l_do F rfl rfl (op_fn F (by kernel_rfl) (ix_at (X := [((pa : Nat) : Int), ((qa : Nat) : Int)]) (a := who) (v := -1) (by unfold ixF; rw [if_neg (by omega)]; unfold ixF; rw [if_neg (by omega)]; rfl) _ _ _ (ends_recs S 2 rfl he) (by simp)) ?_)
  rintro e z ⟨rfl, hb⟩
  have S := S.grow hb
  refine ⟨_, rfl, ?_⟩
  intro a F
  refine l_pure 1 (fun L => (8, .int .i64 (-1)) :: L) F (by kernel_rfl) fun a F => ?_
  refine l_then ?_
  refine s_reg ?_
  refine l_pure 2 (fun L => (34, .bool false) :: (33, .int .i64 (-1)) :: L) F (by kernel_rfl) fun a F => ?_
  refine l_then ?_
  refine c_f F rfl ?_
  refine wp_skip ?_
  refine then_n ?_
  refine s_reg ?_
  refine l_pure 2 (fun L => (7, .int .i64 1) :: (6, .int .i64 0) :: L) F (by kernel_rfl) fun a F => ?_
  refine l_then ?_
  refine wp_ret ?_
  exact fin F [.tmp 6, .tmp 7] [.int .i64 0, .int .i64 1] rfl ⟨by kernel_rfl, by kernel_rfl, trivial⟩ (.tuple #[.int .i64 0, .int .i64 1]) rfl ⟨by rw [hsd], S.pick [1, 2, 0] (by decide)⟩
theorem side24_at {X : List (Nat × Nat)} {cid who v1 v2 : Int} (h : sideP24 X cid who = (v1, v2)) (w : World) (G : Nat → Prop) (b : Nat) (Ae : Option Addr) (ce : Nat) (Af : Option Addr) (nf cf : Nat) (r : Nat) (Ah : Option Addr) (nh ch : Nat) (hS : Sat w w [box b 61 [.slice Ae X.length ce, .slice Af nf cf, .map (some r), .slice Ah nh ch], rEl Ae ce X, rest w G]) : Calls Try.prog 28 #[.pointer (some ⟨b, 0, none⟩), .int .i64 cid, .int .i64 who] w fun e w' => e = .returned (.tuple #[.int .i64 v1, .int .i64 v2]) ∧ Sat w w' [box b 61 [.slice Ae X.length ce, .slice Af nf cf, .map (some r), .slice Ah nh ch], rEl Ae ce X, rest w G] := by
  have h1 := side24_any w G b Ae ce Af nf cf r Ah nh ch X cid who hS
  rw [h] at h1
  exact h1
end Go.Proofs.Ytecgpkjigbhneaa
