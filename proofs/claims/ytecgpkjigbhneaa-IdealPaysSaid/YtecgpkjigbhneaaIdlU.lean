/- Walks over the document's ideal: accounts and channels. -/
import Derived.Test.YtecgpkjigbhneaaIdlT
import Derived.Test.YtecgpkjigbhneaaGk
namespace Go.Proofs.Ytecgpkjigbhneaa
set_option linter.unusedVariables false
set_option linter.unusedSimpArgs false
set_option linter.unnecessarySimpa false
open Go Go.RowKit

set_option maxRecDepth 100000 in
set_option maxHeartbeats 4000000 in
theorem rin24_any (w : World) (G : Nat → Prop) (b : Nat) (Ah : Option Addr) (nh ch : Nat) (Ae : Option Addr) (ne ce : Nat) (Af : Option Addr) (nf cf : Nat) (Al : Option Addr) (nl cl : Nat) (who : Int) (hS : Sat w w [box b 74 [.slice Ah nh ch, .slice Ae ne ce, .slice Af nf cf, .slice Al nl cl], rest w G]) : Calls Try.prog 44 #[.pointer (some ⟨b, 0, none⟩), .int .i64 who] w fun e w' => e = .returned (.bool (inB nh who)) ∧ Sat w w' [box b 74 [.slice Ah nh ch, .slice Ae ne ce, .slice Af nf cf, .slice Al nl cl], rest w G] := by
 refine enter 16 Try.func44 rfl rfl rfl fun a F => ?_
 have S : Sat w w [rest w G, box b 74 [.slice Ah nh ch, .slice Ae ne ce, .slice Af nf cf, .slice Al nl cl]] := hS.pick [1, 0] (by decide)
 refine s_reg ?_
 refine l_pure 1 (fun L => (4, .bool false) :: L) F (by kernel_rfl) fun a F => ?_
 refine l_then ?_
 refine s_reg ?_
 refine l_pure 1 (fun L => (5, .int .i64 who) :: L) F (by kernel_rfl) fun a F => ?_
 by_cases ht1 : (0 : Int) ≤ (who : Int)
 ·
  skip
  refine l_do F rfl rfl (op_pure F (v0 := .bool (decide ((who : Int) ≥ (0 : Int)))) (v := .bool true) (by kernel_rfl) (geqT ht1) fun a F => ?_)
  refine l_pure 5 (fun L => (11, .pointer (some ⟨b, 0, none⟩)) :: (10, .pointer (some ⟨b, 0, none⟩)) :: (9, .pointer (some ⟨b, 0, none⟩)) :: (8, .int .i64 who) :: (7, .bool true) :: L) F (by kernel_rfl) fun a F => ?_
  refine l_do F rfl rfl (op_load _ _ (some ⟨b, 0, none⟩) 0 (.slice Ah nh ch) F rfl (by kernel_rfl) (by kernel_rfl) (cBox S 1 rfl (j := 0) rfl) (fun a F => ?_))
  refine l_pure 1 (fun L => (13, .int .i64 (nh : Nat)) :: L) F (by kernel_rfl) fun a F => ?_
  by_cases ht2 : (who : Int) < ((nh : Nat) : Int)
  ·
   skip
   refine l_do F rfl rfl (op_pure F (v0 := .bool (decide ((who : Int) < ((nh : Nat) : Int)))) (v := .bool true) (by kernel_rfl) (lssT ht2) fun a F => ?_)
   refine l_pure 2 (fun L => (4, .bool true) :: (15, .bool true) :: L) F (by kernel_rfl) fun a F => ?_
   refine l_then ?_
   refine wp_ret ?_
   exact fin F [.tmp 4] [.bool true] rfl ⟨by kernel_rfl, trivial⟩ (.bool true) rfl ⟨by rw [show inB nh who = true from decide_eq_true (by omega)], S.pick [1, 0] (by decide)⟩
  ·
   skip
   refine l_do F rfl rfl (op_pure F (v0 := .bool (decide ((who : Int) < ((nh : Nat) : Int)))) (v := .bool false) (by kernel_rfl) (lssF ht2) fun a F => ?_)
   refine l_pure 2 (fun L => (4, .bool false) :: (15, .bool false) :: L) F (by kernel_rfl) fun a F => ?_
   refine l_then ?_
   refine wp_ret ?_
   exact fin F [.tmp 4] [.bool false] rfl ⟨by kernel_rfl, trivial⟩ (.bool false) rfl ⟨by rw [show inB nh who = false from decide_eq_false (by omega)], S.pick [1, 0] (by decide)⟩
 ·
  skip
  refine l_do F rfl rfl (op_pure F (v0 := .bool (decide ((who : Int) ≥ (0 : Int)))) (v := .bool false) (by kernel_rfl) (geqF ht1) fun a F => ?_)
  refine l_pure 10 (fun L => (4, .bool false) :: (15, .bool false) :: (14, undef) :: (13, undef) :: (12, undef) :: (11, undef) :: (10, undef) :: (9, undef) :: (8, undef) :: (7, .bool false) :: L) F (by kernel_rfl) fun a F => ?_
  refine l_then ?_
  refine wp_ret ?_
  exact fin F [.tmp 4] [.bool false] rfl ⟨by kernel_rfl, trivial⟩ (.bool false) rfl ⟨by rw [show inB nh who = false from decide_eq_false (by omega)], S.pick [1, 0] (by decide)⟩
set_option maxRecDepth 100000 in
set_option maxHeartbeats 4000000 in
theorem rside24_any (w : World) (G : Nat → Prop) (b : Nat) (Ah : Option Addr) (nh ch : Nat) (Ae : Option Addr) (ce : Nat) (Af : Option Addr) (nf cf : Nat) (Al : Option Addr) (nl cl : Nat) (X : List (Nat × Nat)) (cid who : Int) (hS : Sat w w [box b 74 [.slice Ah nh ch, .slice Ae X.length ce, .slice Af nf cf, .slice Al nl cl], rEl Ae ce X, rest w G]) : Calls Try.prog 45 #[.pointer (some ⟨b, 0, none⟩), .int .i64 cid, .int .i64 who] w fun e w' => e = .returned (.tuple #[.int .i64 (sideP24 X cid who).1, .int .i64 (sideP24 X cid who).2]) ∧ Sat w w' [box b 74 [.slice Ah nh ch, .slice Ae X.length ce, .slice Af nf cf, .slice Al nl cl], rEl Ae ce X, rest w G] := by
 refine enter 36 Try.func45 rfl rfl rfl fun a F => ?_
 have S : Sat w w [rest w G, box b 74 [.slice Ah nh ch, .slice Ae X.length ce, .slice Af nf cf, .slice Al nl cl], rEl Ae ce X] := hS.pick [2, 0, 1] (by decide)
 refine s_reg ?_
 refine l_pure 2 (fun L => (7, .int .i64 0) :: (6, .int .i64 0) :: L) F (by kernel_rfl) fun a F => ?_
 refine l_then ?_
 refine wp_seq ?_
 refine s_reg ?_
 refine l_pure 1 (fun L => (9, .int .i64 cid) :: L) F (by kernel_rfl) fun a F => ?_
 rcases side_cases24 X cid who with ⟨hsd, hbad⟩ | ⟨nn, pa, qa, rfl, rfl, he, hsd⟩ | ⟨nn, pa, qa, rfl, rfl, he, hpq, hsd⟩ | ⟨nn, pa, qa, rfl, he, hw1, hw2, hsd⟩
 ·
  skip
  by_cases ht1 : (cid : Int) < (0 : Int)
  ·
   skip
   refine l_do F rfl rfl (op_pure F (v0 := .bool (decide ((cid : Int) < (0 : Int)))) (v := .bool true) (by kernel_rfl) (lssT ht1) fun a F => ?_)
   refine l_pure 9 (fun L => (19, .bool true) :: (18, undef) :: (17, undef) :: (16, undef) :: (15, undef) :: (14, undef) :: (13, undef) :: (12, undef) :: (11, .bool true) :: L) F (by kernel_rfl) fun a F => ?_
   refine l_then ?_
   refine c_t F rfl ?_
   refine s_reg ?_
   refine l_pure 2 (fun L => (7, .int .i64 6) :: (6, .int .i64 0) :: L) F (by kernel_rfl) fun a F => ?_
   refine l_then ?_
   refine wp_ret ?_
   refine then_r (?_)
   exact fin F [.tmp 6, .tmp 7] [.int .i64 0, .int .i64 6] rfl ⟨by kernel_rfl, by kernel_rfl, trivial⟩ (.tuple #[.int .i64 0, .int .i64 6]) rfl ⟨by rw [hsd], S.pick [1, 2, 0] (by decide)⟩
  ·
   skip
   refine l_do F rfl rfl (op_pure F (v0 := .bool (decide ((cid : Int) < (0 : Int)))) (v := .bool false) (by kernel_rfl) (lssF ht1) fun a F => ?_)
   refine l_pure 5 (fun L => (15, .pointer (some ⟨b, 1, none⟩)) :: (14, .pointer (some ⟨b, 0, none⟩)) :: (13, .pointer (some ⟨b, 0, none⟩)) :: (12, .int .i64 cid) :: (11, .bool false) :: L) F (by kernel_rfl) fun a F => ?_
   refine l_do F rfl rfl (op_load _ _ (some ⟨b, 0, none⟩) 1 (.slice Ae X.length ce) F rfl (by kernel_rfl) (by kernel_rfl) (cBox S 1 rfl (j := 1) rfl) (fun a F => ?_))
   refine l_pure 1 (fun L => (17, .int .i64 (X.length : Nat)) :: L) F (by kernel_rfl) fun a F => ?_
   refine l_do F rfl rfl (op_pure F (v0 := .bool (decide ((cid : Int) ≥ ((X.length : Nat) : Int)))) (v := .bool true) (by kernel_rfl) (geqT (by omega)) fun a F => ?_)
   refine l_pure 1 (fun L => (19, .bool true) :: L) F (by kernel_rfl) fun a F => ?_
   refine l_then ?_
   refine c_t F rfl ?_
   refine s_reg ?_
   refine l_pure 2 (fun L => (7, .int .i64 6) :: (6, .int .i64 0) :: L) F (by kernel_rfl) fun a F => ?_
   refine l_then ?_
   refine wp_ret ?_
   refine then_r (?_)
   exact fin F [.tmp 6, .tmp 7] [.int .i64 0, .int .i64 6] rfl ⟨by kernel_rfl, by kernel_rfl, trivial⟩ (.tuple #[.int .i64 0, .int .i64 6]) rfl ⟨by rw [hsd], S.pick [1, 2, 0] (by decide)⟩
 ·
  skip
  have hnn := (List.getElem?_eq_some_iff.1 he).1
  refine l_do F rfl rfl (op_pure F (v0 := .bool (decide (((nn : Nat) : Int) < (0 : Int)))) (v := .bool false) (by kernel_rfl) (lssF (by omega)) fun a F => ?_)
  refine l_pure 5 (fun L => (15, .pointer (some ⟨b, 1, none⟩)) :: (14, .pointer (some ⟨b, 0, none⟩)) :: (13, .pointer (some ⟨b, 0, none⟩)) :: (12, .int .i64 (nn : Nat)) :: (11, .bool false) :: L) F (by kernel_rfl) fun a F => ?_
  refine l_do F rfl rfl (op_load _ _ (some ⟨b, 0, none⟩) 1 (.slice Ae X.length ce) F rfl (by kernel_rfl) (by kernel_rfl) (cBox S 1 rfl (j := 1) rfl) (fun a F => ?_))
  refine l_pure 1 (fun L => (17, .int .i64 (X.length : Nat)) :: L) F (by kernel_rfl) fun a F => ?_
  refine l_do F rfl rfl (op_pure F (v0 := .bool (decide (((nn : Nat) : Int) ≥ ((X.length : Nat) : Int)))) (v := .bool false) (by kernel_rfl) (geqF (by omega)) fun a F => ?_)
  refine l_pure 1 (fun L => (19, .bool false) :: L) F (by kernel_rfl) fun a F => ?_
  refine l_then ?_
  refine c_f F rfl ?_
  refine wp_skip ?_
  refine then_n ?_
  refine wp_seq ?_
  refine s_reg ?_
  refine l_pure 1 (fun L => (8, .int .i64 0) :: L) F (by kernel_rfl) fun a F => ?_
  refine l_then ?_
  refine wp_block ?_
  refine wp_loop_rounds 3 (rnd ?_)
  refine wp_seq ?_
  refine s_reg ?_
  refine l_pure 2 (fun L => (21, .bool true) :: (20, .int .i64 0) :: L) F (by kernel_rfl) fun a F => ?_
  refine l_then ?_
  refine c_t F rfl ?_
  refine wp_skip ?_
  refine then_n ?_
  refine wp_seq ?_
  refine wp_block ?_
  refine s_reg ?_
  refine l_pure 3 (fun L => (26, .pointer (some ⟨b, 1, none⟩)) :: (25, .pointer (some ⟨b, 0, none⟩)) :: (24, .pointer (some ⟨b, 0, none⟩)) :: L) F (by kernel_rfl) fun a F => ?_
  refine l_do F rfl rfl (op_load _ _ (some ⟨b, 0, none⟩) 1 (.slice Ae X.length ce) F rfl (by kernel_rfl) (by kernel_rfl) (cBox S 1 rfl (j := 1) rfl) (fun a F => ?_))
  refine l_pure 2 (fun L => (29, .int .i64 0) :: (28, .int .i64 (nn : Nat)) :: L) F (by kernel_rfl) fun a F => ?_
  refine l_do F rfl rfl (op_index _ 63 _ _ Ae X.length ce nn 2 .i64 F rfl (by kernel_rfl) (by kernel_rfl) (by kernel_rfl) (by kernel_rfl) (get_lt he) (row_some S 2 rfl (m := nn) (get_lt he)) (fun a F => ?_))
  refine l_do F rfl rfl (op_indexArr _ 3 _ _ Ae (nn * 2) 2 0 1 .i64 F rfl (by kernel_rfl) (by kernel_rfl) (by kernel_rfl) (by kernel_rfl) (by decide) (row_some S 2 rfl (m := nn) (get_lt he)) (fun a F => ?_))
  refine l_do F rfl rfl (op_load _ _ Ae (nn * 2) (.int .i64 (pa : Nat)) F rfl (by kernel_rfl) (by kernel_rfl) (cRec S 2 enC_len rfl 0 he rfl) (fun a F => ?_))
  refine l_pure 1 (fun L => (33, .int .i64 (pa : Nat)) :: L) F (by kernel_rfl) fun a F => ?_
  refine l_do F rfl rfl (op_pure F (v0 := .bool (((pa : Nat) : Int) == ((pa : Nat) : Int))) (v := .bool true) (by kernel_rfl) (eqlT rfl) fun a F => ?_)
  refine l_then ?_
  refine c_t F rfl ?_
  refine s_reg ?_
  refine l_pure 3 (fun L => (7, .int .i64 0) :: (6, .int .i64 0) :: (35, .int .i64 0) :: L) F (by kernel_rfl) fun a F => ?_
  refine l_then ?_
  refine wp_ret ?_
  refine inb_r (then_r (then_r (inb_r (then_r (?_)))))
  exact fin F [.tmp 6, .tmp 7] [.int .i64 0, .int .i64 0] rfl ⟨by kernel_rfl, by kernel_rfl, trivial⟩ (.tuple #[.int .i64 0, .int .i64 0]) rfl ⟨by rw [hsd], S.pick [1, 2, 0] (by decide)⟩
 ·
  skip
  have hnn := (List.getElem?_eq_some_iff.1 he).1
  refine l_do F rfl rfl (op_pure F (v0 := .bool (decide (((nn : Nat) : Int) < (0 : Int)))) (v := .bool false) (by kernel_rfl) (lssF (by omega)) fun a F => ?_)
  refine l_pure 5 (fun L => (15, .pointer (some ⟨b, 1, none⟩)) :: (14, .pointer (some ⟨b, 0, none⟩)) :: (13, .pointer (some ⟨b, 0, none⟩)) :: (12, .int .i64 (nn : Nat)) :: (11, .bool false) :: L) F (by kernel_rfl) fun a F => ?_
  refine l_do F rfl rfl (op_load _ _ (some ⟨b, 0, none⟩) 1 (.slice Ae X.length ce) F rfl (by kernel_rfl) (by kernel_rfl) (cBox S 1 rfl (j := 1) rfl) (fun a F => ?_))
  refine l_pure 1 (fun L => (17, .int .i64 (X.length : Nat)) :: L) F (by kernel_rfl) fun a F => ?_
  refine l_do F rfl rfl (op_pure F (v0 := .bool (decide (((nn : Nat) : Int) ≥ ((X.length : Nat) : Int)))) (v := .bool false) (by kernel_rfl) (geqF (by omega)) fun a F => ?_)
  refine l_pure 1 (fun L => (19, .bool false) :: L) F (by kernel_rfl) fun a F => ?_
  refine l_then ?_
  refine c_f F rfl ?_
  refine wp_skip ?_
  refine then_n ?_
  refine wp_seq ?_
  refine s_reg ?_
  refine l_pure 1 (fun L => (8, .int .i64 0) :: L) F (by kernel_rfl) fun a F => ?_
  refine l_then ?_
  refine wp_block ?_
  refine wp_loop_rounds 3 (rnd ?_)
  refine wp_seq ?_
  refine s_reg ?_
  refine l_pure 2 (fun L => (21, .bool true) :: (20, .int .i64 0) :: L) F (by kernel_rfl) fun a F => ?_
  refine l_then ?_
  refine c_t F rfl ?_
  refine wp_skip ?_
  refine then_n ?_
  refine wp_seq ?_
  refine wp_block ?_
  refine s_reg ?_
  refine l_pure 3 (fun L => (26, .pointer (some ⟨b, 1, none⟩)) :: (25, .pointer (some ⟨b, 0, none⟩)) :: (24, .pointer (some ⟨b, 0, none⟩)) :: L) F (by kernel_rfl) fun a F => ?_
  refine l_do F rfl rfl (op_load _ _ (some ⟨b, 0, none⟩) 1 (.slice Ae X.length ce) F rfl (by kernel_rfl) (by kernel_rfl) (cBox S 1 rfl (j := 1) rfl) (fun a F => ?_))
  refine l_pure 2 (fun L => (29, .int .i64 0) :: (28, .int .i64 (nn : Nat)) :: L) F (by kernel_rfl) fun a F => ?_
  refine l_do F rfl rfl (op_index _ 63 _ _ Ae X.length ce nn 2 .i64 F rfl (by kernel_rfl) (by kernel_rfl) (by kernel_rfl) (by kernel_rfl) (get_lt he) (row_some S 2 rfl (m := nn) (get_lt he)) (fun a F => ?_))
  refine l_do F rfl rfl (op_indexArr _ 3 _ _ Ae (nn * 2) 2 0 1 .i64 F rfl (by kernel_rfl) (by kernel_rfl) (by kernel_rfl) (by kernel_rfl) (by decide) (row_some S 2 rfl (m := nn) (get_lt he)) (fun a F => ?_))
  refine l_do F rfl rfl (op_load _ _ Ae (nn * 2) (.int .i64 (pa : Nat)) F rfl (by kernel_rfl) (by kernel_rfl) (cRec S 2 enC_len rfl 0 he rfl) (fun a F => ?_))
  refine l_pure 1 (fun L => (33, .int .i64 (qa : Nat)) :: L) F (by kernel_rfl) fun a F => ?_
  refine l_do F rfl rfl (op_pure F (v0 := .bool (((pa : Nat) : Int) == ((qa : Nat) : Int))) (v := .bool false) (by kernel_rfl) (eqlF (by omega)) fun a F => ?_)
  refine l_then ?_
  refine c_f F rfl ?_
  refine wp_skip ?_
  refine inb_n ?_
  refine then_n ?_
  refine wp_region_list ?_
  refine l_pure 3 (fun L => (8, .int .i64 1) :: (23, .int .i64 1) :: (22, .int .i64 0) :: L) F (by kernel_rfl) fun a F => ?_
  refine l_then ?_
  refine rnd ?_
  refine wp_seq ?_
  refine s_reg ?_
  refine l_pure 2 (fun L => (21, .bool true) :: (20, .int .i64 1) :: L) F (by kernel_rfl) fun a F => ?_
  refine l_then ?_
  refine c_t F rfl ?_
  refine wp_skip ?_
  refine then_n ?_
  refine wp_seq ?_
  refine wp_block ?_
  refine s_reg ?_
  refine l_pure 3 (fun L => (26, .pointer (some ⟨b, 1, none⟩)) :: (25, .pointer (some ⟨b, 0, none⟩)) :: (24, .pointer (some ⟨b, 0, none⟩)) :: L) F (by kernel_rfl) fun a F => ?_
  refine l_do F rfl rfl (op_load _ _ (some ⟨b, 0, none⟩) 1 (.slice Ae X.length ce) F rfl (by kernel_rfl) (by kernel_rfl) (cBox S 1 rfl (j := 1) rfl) (fun a F => ?_))
  refine l_pure 2 (fun L => (29, .int .i64 1) :: (28, .int .i64 (nn : Nat)) :: L) F (by kernel_rfl) fun a F => ?_
  refine l_do F rfl rfl (op_index _ 63 _ _ Ae X.length ce nn 2 .i64 F rfl (by kernel_rfl) (by kernel_rfl) (by kernel_rfl) (by kernel_rfl) (get_lt he) (row_some S 2 rfl (m := nn) (get_lt he)) (fun a F => ?_))
  refine l_do F rfl rfl (op_indexArr _ 3 _ _ Ae (nn * 2) 2 1 1 .i64 F rfl (by kernel_rfl) (by kernel_rfl) (by kernel_rfl) (by kernel_rfl) (by decide) (row_some S 2 rfl (m := nn) (get_lt he)) (fun a F => ?_))
  refine l_do F rfl rfl (op_load _ _ Ae (nn * 2 + 1) (.int .i64 (qa : Nat)) F rfl (by kernel_rfl) (by kernel_rfl) (cRec S 2 enC_len rfl 1 he rfl) (fun a F => ?_))
  refine l_pure 1 (fun L => (33, .int .i64 (qa : Nat)) :: L) F (by kernel_rfl) fun a F => ?_
  refine l_do F rfl rfl (op_pure F (v0 := .bool (((qa : Nat) : Int) == ((qa : Nat) : Int))) (v := .bool true) (by kernel_rfl) (eqlT rfl) fun a F => ?_)
  refine l_then ?_
  refine c_t F rfl ?_
  refine s_reg ?_
  refine l_pure 3 (fun L => (7, .int .i64 0) :: (6, .int .i64 1) :: (35, .int .i64 1) :: L) F (by kernel_rfl) fun a F => ?_
  refine l_then ?_
  refine wp_ret ?_
  refine inb_r (then_r (then_r (inb_r (then_r (?_)))))
  exact fin F [.tmp 6, .tmp 7] [.int .i64 1, .int .i64 0] rfl ⟨by kernel_rfl, by kernel_rfl, trivial⟩ (.tuple #[.int .i64 1, .int .i64 0]) rfl ⟨by rw [hsd], S.pick [1, 2, 0] (by decide)⟩
 ·
  skip
  have hnn := (List.getElem?_eq_some_iff.1 he).1
  refine l_do F rfl rfl (op_pure F (v0 := .bool (decide (((nn : Nat) : Int) < (0 : Int)))) (v := .bool false) (by kernel_rfl) (lssF (by omega)) fun a F => ?_)
  refine l_pure 5 (fun L => (15, .pointer (some ⟨b, 1, none⟩)) :: (14, .pointer (some ⟨b, 0, none⟩)) :: (13, .pointer (some ⟨b, 0, none⟩)) :: (12, .int .i64 (nn : Nat)) :: (11, .bool false) :: L) F (by kernel_rfl) fun a F => ?_
  refine l_do F rfl rfl (op_load _ _ (some ⟨b, 0, none⟩) 1 (.slice Ae X.length ce) F rfl (by kernel_rfl) (by kernel_rfl) (cBox S 1 rfl (j := 1) rfl) (fun a F => ?_))
  refine l_pure 1 (fun L => (17, .int .i64 (X.length : Nat)) :: L) F (by kernel_rfl) fun a F => ?_
  refine l_do F rfl rfl (op_pure F (v0 := .bool (decide (((nn : Nat) : Int) ≥ ((X.length : Nat) : Int)))) (v := .bool false) (by kernel_rfl) (geqF (by omega)) fun a F => ?_)
  refine l_pure 1 (fun L => (19, .bool false) :: L) F (by kernel_rfl) fun a F => ?_
  refine l_then ?_
  refine c_f F rfl ?_
  refine wp_skip ?_
  refine then_n ?_
  refine wp_seq ?_
  refine s_reg ?_
  refine l_pure 1 (fun L => (8, .int .i64 0) :: L) F (by kernel_rfl) fun a F => ?_
  refine l_then ?_
  refine wp_block ?_
  refine wp_loop_rounds 3 (rnd ?_)
  refine wp_seq ?_
  refine s_reg ?_
  refine l_pure 2 (fun L => (21, .bool true) :: (20, .int .i64 0) :: L) F (by kernel_rfl) fun a F => ?_
  refine l_then ?_
  refine c_t F rfl ?_
  refine wp_skip ?_
  refine then_n ?_
  refine wp_seq ?_
  refine wp_block ?_
  refine s_reg ?_
  refine l_pure 3 (fun L => (26, .pointer (some ⟨b, 1, none⟩)) :: (25, .pointer (some ⟨b, 0, none⟩)) :: (24, .pointer (some ⟨b, 0, none⟩)) :: L) F (by kernel_rfl) fun a F => ?_
  refine l_do F rfl rfl (op_load _ _ (some ⟨b, 0, none⟩) 1 (.slice Ae X.length ce) F rfl (by kernel_rfl) (by kernel_rfl) (cBox S 1 rfl (j := 1) rfl) (fun a F => ?_))
  refine l_pure 2 (fun L => (29, .int .i64 0) :: (28, .int .i64 (nn : Nat)) :: L) F (by kernel_rfl) fun a F => ?_
  refine l_do F rfl rfl (op_index _ 63 _ _ Ae X.length ce nn 2 .i64 F rfl (by kernel_rfl) (by kernel_rfl) (by kernel_rfl) (by kernel_rfl) (get_lt he) (row_some S 2 rfl (m := nn) (get_lt he)) (fun a F => ?_))
  refine l_do F rfl rfl (op_indexArr _ 3 _ _ Ae (nn * 2) 2 0 1 .i64 F rfl (by kernel_rfl) (by kernel_rfl) (by kernel_rfl) (by kernel_rfl) (by decide) (row_some S 2 rfl (m := nn) (get_lt he)) (fun a F => ?_))
  refine l_do F rfl rfl (op_load _ _ Ae (nn * 2) (.int .i64 (pa : Nat)) F rfl (by kernel_rfl) (by kernel_rfl) (cRec S 2 enC_len rfl 0 he rfl) (fun a F => ?_))
  refine l_pure 1 (fun L => (33, .int .i64 who) :: L) F (by kernel_rfl) fun a F => ?_
  refine l_do F rfl rfl (op_pure F (v0 := .bool (((pa : Nat) : Int) == (who : Int))) (v := .bool false) (by kernel_rfl) (eqlF (by omega)) fun a F => ?_)
  refine l_then ?_
  refine c_f F rfl ?_
  refine wp_skip ?_
  refine inb_n ?_
  refine then_n ?_
  refine wp_region_list ?_
  refine l_pure 3 (fun L => (8, .int .i64 1) :: (23, .int .i64 1) :: (22, .int .i64 0) :: L) F (by kernel_rfl) fun a F => ?_
  refine l_then ?_
  refine rnd ?_
  refine wp_seq ?_
  refine s_reg ?_
  refine l_pure 2 (fun L => (21, .bool true) :: (20, .int .i64 1) :: L) F (by kernel_rfl) fun a F => ?_
  refine l_then ?_
  refine c_t F rfl ?_
  refine wp_skip ?_
  refine then_n ?_
  refine wp_seq ?_
  refine wp_block ?_
  refine s_reg ?_
  refine l_pure 3 (fun L => (26, .pointer (some ⟨b, 1, none⟩)) :: (25, .pointer (some ⟨b, 0, none⟩)) :: (24, .pointer (some ⟨b, 0, none⟩)) :: L) F (by kernel_rfl) fun a F => ?_
  refine l_do F rfl rfl (op_load _ _ (some ⟨b, 0, none⟩) 1 (.slice Ae X.length ce) F rfl (by kernel_rfl) (by kernel_rfl) (cBox S 1 rfl (j := 1) rfl) (fun a F => ?_))
  refine l_pure 2 (fun L => (29, .int .i64 1) :: (28, .int .i64 (nn : Nat)) :: L) F (by kernel_rfl) fun a F => ?_
  refine l_do F rfl rfl (op_index _ 63 _ _ Ae X.length ce nn 2 .i64 F rfl (by kernel_rfl) (by kernel_rfl) (by kernel_rfl) (by kernel_rfl) (get_lt he) (row_some S 2 rfl (m := nn) (get_lt he)) (fun a F => ?_))
  refine l_do F rfl rfl (op_indexArr _ 3 _ _ Ae (nn * 2) 2 1 1 .i64 F rfl (by kernel_rfl) (by kernel_rfl) (by kernel_rfl) (by kernel_rfl) (by decide) (row_some S 2 rfl (m := nn) (get_lt he)) (fun a F => ?_))
  refine l_do F rfl rfl (op_load _ _ Ae (nn * 2 + 1) (.int .i64 (qa : Nat)) F rfl (by kernel_rfl) (by kernel_rfl) (cRec S 2 enC_len rfl 1 he rfl) (fun a F => ?_))
  refine l_pure 1 (fun L => (33, .int .i64 who) :: L) F (by kernel_rfl) fun a F => ?_
  refine l_do F rfl rfl (op_pure F (v0 := .bool (((qa : Nat) : Int) == (who : Int))) (v := .bool false) (by kernel_rfl) (eqlF (by omega)) fun a F => ?_)
  refine l_then ?_
  refine c_f F rfl ?_
  refine wp_skip ?_
  refine inb_n ?_
  refine then_n ?_
  refine wp_region_list ?_
  refine l_pure 3 (fun L => (8, .int .i64 2) :: (23, .int .i64 2) :: (22, .int .i64 1) :: L) F (by kernel_rfl) fun a F => ?_
  refine l_then ?_
  refine rnd ?_
  refine wp_seq ?_
  refine s_reg ?_
  refine l_pure 2 (fun L => (21, .bool false) :: (20, .int .i64 2) :: L) F (by kernel_rfl) fun a F => ?_
  refine l_then ?_
  refine c_f F rfl ?_
  refine wp_exit ?_
  refine then_x ?_
  refine then_x ?_
  refine inb_x ?_
  refine then_n ?_
  refine s_reg ?_
  refine l_pure 2 (fun L => (7, .int .i64 1) :: (6, .int .i64 0) :: L) F (by kernel_rfl) fun a F => ?_
  refine l_then ?_
  refine wp_ret ?_
  exact fin F [.tmp 6, .tmp 7] [.int .i64 0, .int .i64 1] rfl ⟨by kernel_rfl, by kernel_rfl, trivial⟩ (.tuple #[.int .i64 0, .int .i64 1]) rfl ⟨by rw [hsd], S.pick [1, 2, 0] (by decide)⟩
theorem rside24_at {X : List (Nat × Nat)} {cid who v1 v2 : Int} (h : sideP24 X cid who = (v1, v2)) (w : World) (G : Nat → Prop) (b : Nat) (Ah : Option Addr) (nh ch : Nat) (Ae : Option Addr) (ce : Nat) (Af : Option Addr) (nf cf : Nat) (Al : Option Addr) (nl cl : Nat) (hS : Sat w w [box b 74 [.slice Ah nh ch, .slice Ae X.length ce, .slice Af nf cf, .slice Al nl cl], rEl Ae ce X, rest w G]) : Calls Try.prog 45 #[.pointer (some ⟨b, 0, none⟩), .int .i64 cid, .int .i64 who] w fun e w' => e = .returned (.tuple #[.int .i64 v1, .int .i64 v2]) ∧ Sat w w' [box b 74 [.slice Ah nh ch, .slice Ae X.length ce, .slice Af nf cf, .slice Al nl cl], rEl Ae ce X, rest w G] := by
  have h1 := rside24_any w G b Ah nh ch Ae ce Af nf cf Al nl cl X cid who hS
  rw [h] at h1
  exact h1
set_option maxRecDepth 100000 in
set_option maxHeartbeats 4000000 in
theorem rfind24_any (w : World) (G : Nat → Prop) (b : Nat) (Ah : Option Addr) (nh ch : Nat) (Ae : Option Addr) (ne ce : Nat) (Af : Option Addr) (nf cf : Nat) (Al : Option Addr) (cl : Nat) (X : List PayR) (hl : X.length ≤ 1000) (cid : Int) (hS : Sat w w [box b 74 [.slice Ah nh ch, .slice Ae ne ce, .slice Af nf cf, .slice Al X.length cl], rPl Al cl X, rest w G]) : Calls Try.prog 47 #[.pointer (some ⟨b, 0, none⟩), .int .u64 cid] w fun e w' => e = .returned (.int .i64 (findV (X.map PayR.p) cid)) ∧ Sat w w' [box b 74 [.slice Ah nh ch, .slice Ae ne ce, .slice Af nf cf, .slice Al X.length cl], rPl Al cl X, rest w G] := by
 refine enter 26 Try.func47 rfl rfl rfl fun a F => ?_
 have S : Sat w w [rest w G, box b 74 [.slice Ah nh ch, .slice Ae ne ce, .slice Af nf cf, .slice Al X.length cl], rPl Al cl X] := hS.pick [2, 0, 1] (by decide)
 refine s_reg ?_
 refine l_pure 1 (fun L => (4, .int .i64 0) :: L) F (by kernel_rfl) fun a F => ?_
 refine l_then ?_
 refine wp_seq ?_
 refine s_reg ?_
 refine l_pure 1 (fun L => (5, .int .i64 0) :: L) F (by kernel_rfl) fun a F => ?_
 refine l_then ?_
 refine wp_block ?_
 refine wp_loop_m (fun m a z => ∃ (i : Nat), m = X.length - i ∧ (i ≤ X.length) ∧ (∀ (j : Nat) (p : Pay), j < i → (X.map PayR.p)[j]? = some p → p.id ≠ cid) ∧ Fr a 26 [(0, .pointer (some ⟨b, 0, none⟩)), (1, .int .u64 cid), (5, .int .i64 (i : Nat))] ∧ Sat w z [rest w G, box b 74 [.slice Ah nh ch, .slice Ae ne ce, .slice Af nf cf, .slice Al X.length cl], rPl Al cl X]) _ ⟨0, rfl, Nat.zero_le _, (fun j p hj => absurd hj (Nat.not_lt_zero j)), F.sub ⟨by kernel_rfl, by kernel_rfl, by kernel_rfl, trivial⟩, S⟩ ?_
 rintro m a z ⟨i, hm, hf1, hf2, F, S⟩
 have hno := hf2
 refine wp_seq ?_
 refine s_reg ?_
 refine l_pure 4 (fun L => (9, .pointer (some ⟨b, 3, none⟩)) :: (8, .pointer (some ⟨b, 0, none⟩)) :: (7, .pointer (some ⟨b, 0, none⟩)) :: (6, .int .i64 (i : Nat)) :: L) F (by kernel_rfl) fun a F => ?_
 refine l_do F rfl rfl (op_load _ _ (some ⟨b, 0, none⟩) 3 (.slice Al X.length cl) F rfl (by kernel_rfl) (by kernel_rfl) (cBox S 1 rfl (j := 3) rfl) (fun a F => ?_))
 refine l_pure 1 (fun L => (11, .int .i64 (X.length : Nat)) :: L) F (by kernel_rfl) fun a F => ?_
 by_cases ht3 : ((i : Nat) : Int) < ((X.length : Nat) : Int)
 ·
  skip
  obtain ⟨q, hq⟩ : ∃ q, X[i]? = some q := ⟨_, List.getElem?_eq_getElem (by omega)⟩
  refine l_do F rfl rfl (op_pure F (v0 := .bool (decide (((i : Nat) : Int) < ((X.length : Nat) : Int)))) (v := .bool true) (by kernel_rfl) (lssT ht3) fun a F => ?_)
  refine l_then ?_
  refine c_t F rfl ?_
  refine wp_skip ?_
  refine then_n ?_
  refine wp_seq ?_
  refine wp_block ?_
  refine s_reg ?_
  refine l_pure 3 (fun L => (17, .pointer (some ⟨b, 3, none⟩)) :: (16, .pointer (some ⟨b, 0, none⟩)) :: (15, .pointer (some ⟨b, 0, none⟩)) :: L) F (by kernel_rfl) fun a F => ?_
  refine l_do F rfl rfl (op_load _ _ (some ⟨b, 0, none⟩) 3 (.slice Al X.length cl) F rfl (by kernel_rfl) (by kernel_rfl) (cBox S 1 rfl (j := 3) rfl) (fun a F => ?_))
  refine l_pure 1 (fun L => (19, .int .i64 (i : Nat)) :: L) F (by kernel_rfl) fun a F => ?_
  refine l_do F rfl rfl (op_index _ 83 _ _ Al X.length cl i 3 .i64 F rfl (by kernel_rfl) (by kernel_rfl) (by kernel_rfl) (by kernel_rfl) (get_lt hq) (row_some S 2 rfl (m := i) (get_lt hq)) (fun a F => ?_))
  refine l_do F rfl rfl (op_field _ _ _ Al (i * 3) 0 F rfl (by kernel_rfl) (by kernel_rfl) (row_some S 2 rfl (m := i) (get_lt hq)) (fun a F => ?_))
  refine l_do F rfl rfl (op_load _ _ Al (i * 3) (.int .u64 q.p.id) F rfl (by kernel_rfl) (by kernel_rfl) (cRec S 2 payC_len rfl 0 hq rfl) (fun a F => ?_))
  refine l_pure 1 (fun L => (23, .int .u64 cid) :: L) F (by kernel_rfl) fun a F => ?_
  by_cases ht4 : (q.p.id : Int) = (cid : Int)
  ·
   skip
   refine l_do F rfl rfl (op_pure F (v0 := .bool ((q.p.id : Int) == (cid : Int))) (v := .bool true) (by kernel_rfl) (eqlT ht4) fun a F => ?_)
   refine l_then ?_
   refine c_t F rfl ?_
   refine s_reg ?_
   refine l_pure 2 (fun L => (4, .int .i64 (i : Nat)) :: (25, .int .i64 (i : Nat)) :: L) F (by kernel_rfl) fun a F => ?_
   refine l_then ?_
   refine wp_ret ?_
   refine inb_r (then_r (then_r (inb_r (then_r (?_)))))
   exact fin F [.tmp 4] [.int .i64 (i : Nat)] rfl ⟨by kernel_rfl, trivial⟩ (.int .i64 (i : Nat)) rfl ⟨by rw [findV_some (find_first (qs_at rfl hq) ht4 hno)], S.pick [1, 2, 0] (by decide)⟩
  ·
   skip
   refine l_do F rfl rfl (op_pure F (v0 := .bool ((q.p.id : Int) == (cid : Int))) (v := .bool false) (by kernel_rfl) (eqlF ht4) fun a F => ?_)
   refine l_then ?_
   refine c_f F rfl ?_
   refine wp_skip ?_
   refine inb_n ?_
   refine then_n ?_
   refine wp_region_list ?_
   refine l_pure 1 (fun L => (13, .int .i64 (i : Nat)) :: L) F (by kernel_rfl) fun a F => ?_
   refine l_do F rfl rfl (op_pure F (v0 := .int .i64 (IntKind.wrap .i64 ((i : Nat) + 1))) (v := .int .i64 (i + 1 : Nat)) (by kernel_rfl) (wrn_i64 (by omega) (by omega) (by omega)) fun a F => ?_)
   refine l_pure 1 (fun L => (5, .int .i64 (i + 1 : Nat)) :: L) F (by kernel_rfl) fun a F => ?_
   refine l_then ?_
   exact ⟨_, (by omega), i + 1, rfl, (by omega), (fun j p hj hp => by
     by_cases hji : j = i
     · subst hji; rw [qs_at rfl hq] at hp; cases hp; exact ht4
     · exact hno j p (by omega) hp), F.sub ⟨by kernel_rfl, by kernel_rfl, by kernel_rfl, trivial⟩, S⟩
 ·
  skip
  have hi : X.length ≤ i := by omega
  refine l_do F rfl rfl (op_pure F (v0 := .bool (decide (((i : Nat) : Int) < ((X.length : Nat) : Int)))) (v := .bool false) (by kernel_rfl) (lssF ht3) fun a F => ?_)
  refine l_then ?_
  refine c_f F rfl ?_
  refine wp_exit ?_
  refine then_x ?_
  refine then_x ?_
  refine inb_x ?_
  refine then_n ?_
  refine s_reg ?_
  refine l_pure 1 (fun L => (4, .int .i64 (-1)) :: L) F (by kernel_rfl) fun a F => ?_
  refine l_then ?_
  refine wp_ret ?_
  exact fin F [.tmp 4] [.int .i64 (-1)] rfl ⟨by kernel_rfl, trivial⟩ (.int .i64 (-1)) rfl ⟨by rw [findV_none (find_no fun j p hp => hno j p (by have h9 := (List.getElem?_eq_some_iff.1 hp).1; rw [List.length_map] at h9; omega) hp)], S.pick [1, 2, 0] (by decide)⟩
theorem rfind24_at {X : List PayR} {l : List Pay} {cid v : Int} (hm : X.map PayR.p = l) (h : findV l cid = v) (w : World) (G : Nat → Prop) (b : Nat) (Ah : Option Addr) (nh ch : Nat) (Ae : Option Addr) (ne ce : Nat) (Af : Option Addr) (nf cf : Nat) (Al : Option Addr) (cl : Nat) (hl : X.length ≤ 1000) (hS : Sat w w [box b 74 [.slice Ah nh ch, .slice Ae ne ce, .slice Af nf cf, .slice Al X.length cl], rPl Al cl X, rest w G]) : Calls Try.prog 47 #[.pointer (some ⟨b, 0, none⟩), .int .u64 cid] w fun e w' => e = .returned (.int .i64 v) ∧ Sat w w' [box b 74 [.slice Ah nh ch, .slice Ae ne ce, .slice Af nf cf, .slice Al X.length cl], rPl Al cl X, rest w G] := by
  subst hm
  have h1 := rfind24_any w G b Ah nh ch Ae ne ce Af nf cf Al cl X hl cid hS
  rw [h] at h1
  exact h1
set_option maxRecDepth 100000 in
set_option maxHeartbeats 4000000 in
theorem ropen24_any (w : World) (G : Nat → Prop) (b : Nat) (I : Idl) (ok : IOk I) (hS : Sat w w [refA b I, rest w G]) (aa bb pq qq : Int) (hp : U64 pq) (hq : U64 qq) : Calls Try.prog 32 #[.pointer (some ⟨b, 0, none⟩), .int .i64 aa, .int .i64 bb, .agg #[.int .u64 pq, .int .u64 qq]] w fun e w' => e = .returned (.tuple #[.int .i64 (openP I aa bb pq qq).2.1, .int .i64 (openP I aa bb pq qq).2.2]) ∧ Sat w w' [refA b (openP I aa bb pq qq).1, rest w G] := by
 have hfl := ok.fl
 have hp2 := hp
 have hq2 := hq
 unfold U64 at hp2 hq2
 refine enter 113 Try.func32 rfl rfl rfl fun a F => ?_
 obtain ⟨Ah, ch, Ae, ce, Af, cf, Al, cl, qs, hqs, S⟩ := ref_open hS
 have hel := ok.el
 have hhl := ok.hl
 have hsm := ok.sums
 refine s_reg ?_
 refine l_do F rfl rfl (op_box S _ _ (.agg #[.int .u64 pq, .int .u64 qq]) F rfl (by kernel_rfl) fun b1 z S a F => ?_)
 refine l_pure 2 (fun L => (9, .int .i64 0) :: (8, .int .i64 0) :: L) F (by kernel_rfl) fun a F => ?_
 refine l_then ?_
 refine wp_seq ?_
 refine s_reg ?_
 refine l_pure 2 (fun L => (11, .int .i64 aa) :: (10, .pointer (some ⟨b, 0, none⟩)) :: L) F (by kernel_rfl) fun a F => ?_
 cases hb2 : (inB I.has.length aa) with
 | false =>
  have hna := inB_f hb2
  obtain ⟨G9, g9, hin9, hlt9, k9⟩ := S.frameB [1] (by decide) rfl
  refine l_do F rfl rfl (op_fn F (by kernel_rfl) (rin24_any _ G9 b Ah I.has.length ch Ae I.ends.length ce Af I.free.length cf Al qs.length cl aa g9) ?_)
  rintro e z9 ⟨rfl, g⟩
  have S : Sat w z9 [rest w G, box b 74 [.slice Ah I.has.length ch, .slice Ae I.ends.length ce, .slice Af I.free.length cf, .slice Al qs.length cl], rUl Ah ch I.has, rEl Ae ce I.ends, rFl Af cf I.free, rPl Al cl qs, bag (qs.flatMap legRows), box b1 31 [.int .u64 pq, .int .u64 qq]] := k9 z9 [box b 74 [.slice Ah I.has.length ch, .slice Ae I.ends.length ce, .slice Af I.free.length cf, .slice Al qs.length cl]] rfl g
  clear g g9 k9 hin9 hlt9
  refine ⟨_, rfl, ?_⟩
  rw [hb2]
  intro a F
  refine l_pure 12 (fun L => (24, .bool true) :: (23, undef) :: (22, undef) :: (21, undef) :: (20, .bool true) :: (19, .bool true) :: (18, undef) :: (17, undef) :: (16, undef) :: (15, undef) :: (14, .bool true) :: (13, .bool true) :: L) F (by kernel_rfl) fun a F => ?_
  refine l_then ?_
  refine c_t F rfl ?_
  refine s_reg ?_
  refine l_pure 2 (fun L => (9, .int .i64 1) :: (8, .int .i64 0) :: L) F (by kernel_rfl) fun a F => ?_
  refine l_then ?_
  refine wp_ret ?_
  refine then_r (?_)
  exact fin F [.tmp 8, .tmp 9] [.int .i64 0, .int .i64 1] rfl ⟨by kernel_rfl, by kernel_rfl, trivial⟩ (.tuple #[.int .i64 0, .int .i64 1]) rfl ⟨by rw [open_arg (by omega)], by rw [open_arg (by omega)]; exact (ref_shut hqs (by simp) (by simp) (by simp) (by simp) (S.pick [0, 1, 2, 3, 4, 5, 6] (by decide)))⟩
 | true =>
  obtain ⟨an, rfl, han⟩ := inB_t hb2
  obtain ⟨xa, hxa⟩ : ∃ xa, I.has[an]? = some xa := ⟨_, List.getElem?_eq_getElem (by omega)⟩
  have hx1 := sumI_one I.has an xa ok.hu hxa
  obtain ⟨G9, g9, hin9, hlt9, k9⟩ := S.frameB [1] (by decide) rfl
  refine l_do F rfl rfl (op_fn F (by kernel_rfl) (rin24_any _ G9 b Ah I.has.length ch Ae I.ends.length ce Af I.free.length cf Al qs.length cl (an : Nat) g9) ?_)
  rintro e z9 ⟨rfl, g⟩
  have S : Sat w z9 [rest w G, box b 74 [.slice Ah I.has.length ch, .slice Ae I.ends.length ce, .slice Af I.free.length cf, .slice Al qs.length cl], rUl Ah ch I.has, rEl Ae ce I.ends, rFl Af cf I.free, rPl Al cl qs, bag (qs.flatMap legRows), box b1 31 [.int .u64 pq, .int .u64 qq]] := k9 z9 [box b 74 [.slice Ah I.has.length ch, .slice Ae I.ends.length ce, .slice Af I.free.length cf, .slice Al qs.length cl]] rfl g
  clear g g9 k9 hin9 hlt9
  refine ⟨_, rfl, ?_⟩
  rw [hb2]
  intro a F
  refine l_pure 4 (fun L => (16, .int .i64 bb) :: (15, .pointer (some ⟨b, 0, none⟩)) :: (14, .bool false) :: (13, .bool false) :: L) F (by kernel_rfl) fun a F => ?_
  cases hb3 : (inB I.has.length bb) with
  | false =>
   have hna := inB_f hb3
   obtain ⟨G9, g9, hin9, hlt9, k9⟩ := S.frameB [1] (by decide) rfl
   refine l_do F rfl rfl (op_fn F (by kernel_rfl) (rin24_any _ G9 b Ah I.has.length ch Ae I.ends.length ce Af I.free.length cf Al qs.length cl bb g9) ?_)
   rintro e z9 ⟨rfl, g⟩
   have S : Sat w z9 [rest w G, box b 74 [.slice Ah I.has.length ch, .slice Ae I.ends.length ce, .slice Af I.free.length cf, .slice Al qs.length cl], rUl Ah ch I.has, rEl Ae ce I.ends, rFl Af cf I.free, rPl Al cl qs, bag (qs.flatMap legRows), box b1 31 [.int .u64 pq, .int .u64 qq]] := k9 z9 [box b 74 [.slice Ah I.has.length ch, .slice Ae I.ends.length ce, .slice Af I.free.length cf, .slice Al qs.length cl]] rfl g
   clear g g9 k9 hin9 hlt9
   refine ⟨_, rfl, ?_⟩
   rw [hb3]
   intro a F
   refine l_pure 7 (fun L => (24, .bool true) :: (23, undef) :: (22, undef) :: (21, undef) :: (20, .bool true) :: (19, .bool true) :: (18, .bool true) :: L) F (by kernel_rfl) fun a F => ?_
   refine l_then ?_
   refine c_t F rfl ?_
   refine s_reg ?_
   refine l_pure 2 (fun L => (9, .int .i64 1) :: (8, .int .i64 0) :: L) F (by kernel_rfl) fun a F => ?_
   refine l_then ?_
   refine wp_ret ?_
   refine then_r (?_)
   exact fin F [.tmp 8, .tmp 9] [.int .i64 0, .int .i64 1] rfl ⟨by kernel_rfl, by kernel_rfl, trivial⟩ (.tuple #[.int .i64 0, .int .i64 1]) rfl ⟨by rw [open_arg (by omega)], by rw [open_arg (by omega)]; exact (ref_shut hqs (by simp) (by simp) (by simp) (by simp) (S.pick [0, 1, 2, 3, 4, 5, 6] (by decide)))⟩
  | true =>
   obtain ⟨bn, rfl, hbn⟩ := inB_t hb3
   obtain ⟨xb, hxb⟩ : ∃ xb, I.has[bn]? = some xb := ⟨_, List.getElem?_eq_getElem (by omega)⟩
   have hx3 := sumI_one I.has bn xb ok.hu hxb
   obtain ⟨G9, g9, hin9, hlt9, k9⟩ := S.frameB [1] (by decide) rfl
   refine l_do F rfl rfl (op_fn F (by kernel_rfl) (rin24_any _ G9 b Ah I.has.length ch Ae I.ends.length ce Af I.free.length cf Al qs.length cl (bn : Nat) g9) ?_)
   rintro e z9 ⟨rfl, g⟩
   have S : Sat w z9 [rest w G, box b 74 [.slice Ah I.has.length ch, .slice Ae I.ends.length ce, .slice Af I.free.length cf, .slice Al qs.length cl], rUl Ah ch I.has, rEl Ae ce I.ends, rFl Af cf I.free, rPl Al cl qs, bag (qs.flatMap legRows), box b1 31 [.int .u64 pq, .int .u64 qq]] := k9 z9 [box b 74 [.slice Ah I.has.length ch, .slice Ae I.ends.length ce, .slice Af I.free.length cf, .slice Al qs.length cl]] rfl g
   clear g g9 k9 hin9 hlt9
   refine ⟨_, rfl, ?_⟩
   rw [hb3]
   intro a F
   refine l_pure 5 (fun L => (22, .int .i64 (bn : Nat)) :: (21, .int .i64 (an : Nat)) :: (20, .bool false) :: (19, .bool false) :: (18, .bool false) :: L) F (by kernel_rfl) fun a F => ?_
   by_cases ht4 : ((an : Nat) : Int) = ((bn : Nat) : Int)
   ·
    skip
    refine l_do F rfl rfl (op_pure F (v0 := .bool (((an : Nat) : Int) == ((bn : Nat) : Int))) (v := .bool true) (by kernel_rfl) (eqlT ht4) fun a F => ?_)
    refine l_pure 1 (fun L => (24, .bool true) :: L) F (by kernel_rfl) fun a F => ?_
    refine l_then ?_
    refine c_t F rfl ?_
    refine s_reg ?_
    refine l_pure 2 (fun L => (9, .int .i64 1) :: (8, .int .i64 0) :: L) F (by kernel_rfl) fun a F => ?_
    refine l_then ?_
    refine wp_ret ?_
    refine then_r (?_)
    exact fin F [.tmp 8, .tmp 9] [.int .i64 0, .int .i64 1] rfl ⟨by kernel_rfl, by kernel_rfl, trivial⟩ (.tuple #[.int .i64 0, .int .i64 1]) rfl ⟨by rw [open_arg (by omega)], by rw [open_arg (by omega)]; exact (ref_shut hqs (by simp) (by simp) (by simp) (by simp) (S.pick [0, 1, 2, 3, 4, 5, 6] (by decide)))⟩
   ·
    skip
    refine l_do F rfl rfl (op_pure F (v0 := .bool (((an : Nat) : Int) == ((bn : Nat) : Int))) (v := .bool false) (by kernel_rfl) (eqlF ht4) fun a F => ?_)
    refine l_pure 1 (fun L => (24, .bool false) :: L) F (by kernel_rfl) fun a F => ?_
    refine l_then ?_
    refine c_f F rfl ?_
    refine wp_skip ?_
    refine then_n ?_
    refine wp_seq ?_
    refine s_reg ?_
    refine l_pure 3 (fun L => (27, .pointer (some ⟨b, 1, none⟩)) :: (26, .pointer (some ⟨b, 0, none⟩)) :: (25, .pointer (some ⟨b, 0, none⟩)) :: L) F (by kernel_rfl) fun a F => ?_
    refine l_do F rfl rfl (op_load _ _ (some ⟨b, 0, none⟩) 1 (.slice Ae I.ends.length ce) F rfl (by kernel_rfl) (by kernel_rfl) (cBox S 1 rfl (j := 1) rfl) (fun a F => ?_))
    refine l_pure 1 (fun L => (29, .int .i64 (I.ends.length : Nat)) :: L) F (by kernel_rfl) fun a F => ?_
    by_cases ht5 : ((I.ends.length : Nat) : Int) = (16 : Int)
    ·
     skip
     refine l_do F rfl rfl (op_pure F (v0 := .bool (((I.ends.length : Nat) : Int) == (16 : Int))) (v := .bool true) (by kernel_rfl) (eqlT ht5) fun a F => ?_)
     refine l_then ?_
     refine c_t F rfl ?_
     refine s_reg ?_
     refine l_pure 2 (fun L => (9, .int .i64 4) :: (8, .int .i64 0) :: L) F (by kernel_rfl) fun a F => ?_
     refine l_then ?_
     refine wp_ret ?_
     refine then_r (?_)
     exact fin F [.tmp 8, .tmp 9] [.int .i64 0, .int .i64 4] rfl ⟨by kernel_rfl, by kernel_rfl, trivial⟩ (.tuple #[.int .i64 0, .int .i64 4]) rfl ⟨by rw [open_full (by omega) (by omega)], by rw [open_full (by omega) (by omega)]; exact (ref_shut hqs (by simp) (by simp) (by simp) (by simp) (S.pick [0, 1, 2, 3, 4, 5, 6] (by decide)))⟩
    ·
     skip
     refine l_do F rfl rfl (op_pure F (v0 := .bool (((I.ends.length : Nat) : Int) == (16 : Int))) (v := .bool false) (by kernel_rfl) (eqlF ht5) fun a F => ?_)
     refine l_then ?_
     refine c_f F rfl ?_
     refine wp_skip ?_
     refine then_n ?_
     refine wp_seq ?_
     refine wp_seq ?_
     by_cases ht6 : (xa : Int) < (pq : Int)
     ·
      skip
      refine region_gx (fun D => fun (_ : Unit) => [rest w G, box b 74 [.slice Ah I.has.length ch, .slice Ae I.ends.length ce, .slice Af I.free.length cf, .slice Al qs.length cl], rUl Ah ch I.has, rEl Ae ce I.ends, rFl Af cf I.free, rPl Al cl qs, bag (qs.flatMap legRows), box b1 31 [.int .u64 pq, .int .u64 qq]]) (fun (_ : Unit) => [.pointer (some ⟨b, 0, none⟩), .pointer (some ⟨b, 0, none⟩), .pointer (some ⟨b, 0, none⟩), .slice Ah I.has.length ch, .int .i64 (an : Nat), ptrA Ah (an * 1), .int .u64 xa, .pointer (some ⟨b1, 0, none⟩), .int .u64 pq, .bool true, .bool true, undef, undef, undef, undef, undef, undef, undef, undef, undef, undef, .bool true]) [(3, [], [5, 6, 9]), (5, [3], [6, 9]), (6, [3, 5], [9]), (8, [], [9]), (9, [3, 5, 6, 8], [])] () rfl (by kernel_rfl) (by kernel_rfl) F S.drew ?_ ?_ ?_ ?_ ?_
      · rintro ⟨⟩; rfl
      · rintro ⟨⟩; kernel_rfl
      ·
       intro D D' x h
       cases x
       rfl
      ·
       refine ⟨?_, ?_⟩
       ·
        refine ⟨_, rfl, rfl, by kernel_rfl, ?_⟩
        rintro D ⟨⟩ a z S F
        refine ⟨by kernel_rfl, ?_⟩
        exact op_load _ _ (some ⟨b, 0, none⟩) 0 (.slice Ah I.has.length ch) F rfl (by kernel_rfl) (by kernel_rfl) (cBox S 1 rfl (j := 0) rfl) (⟨(), rfl, (SameB.refl _ _ rfl), S⟩)
       refine ⟨?_, ?_⟩
       ·
        refine ⟨_, rfl, rfl, by kernel_rfl, ?_⟩
        rintro D ⟨⟩ a z S F
        refine ⟨by kernel_rfl, ?_⟩
        exact op_index _ 23 _ _ Ah I.has.length ch an 1 .i64 F rfl (by kernel_rfl) (by kernel_rfl) (by kernel_rfl) (by kernel_rfl) (get_lt hxa) (row_some S 2 rfl (m := an) (get_lt hxa)) (⟨(), rfl, (SameB.refl _ _ rfl), S⟩)
       refine ⟨?_, ?_⟩
       ·
        refine ⟨_, rfl, rfl, by kernel_rfl, ?_⟩
        rintro D ⟨⟩ a z S F
        refine ⟨by kernel_rfl, ?_⟩
        exact op_load _ _ Ah (an * 1) (.int .u64 xa) F rfl (by kernel_rfl) (by kernel_rfl) (cRec S 2 iC_len_u64 rfl 0 hxa rfl) (⟨(), rfl, (SameB.refl _ _ rfl), S⟩)
       refine ⟨?_, ?_⟩
       ·
        refine ⟨_, rfl, rfl, by kernel_rfl, ?_⟩
        rintro D ⟨⟩ a z S F
        refine ⟨by kernel_rfl, ?_⟩
        exact op_load _ _ (some ⟨b1, 0, none⟩) 0 (.int .u64 pq) F rfl (by kernel_rfl) (by kernel_rfl) (cBox S 7 rfl (j := 0) rfl) (⟨(), rfl, (SameB.refl _ _ rfl), S⟩)
       refine ⟨?_, ?_⟩
       ·
        refine ⟨_, rfl, rfl, by kernel_rfl, ?_⟩
        rintro D ⟨⟩ a z S F
        refine ⟨by kernel_rfl, ?_⟩
        exact op_pure F (v0 := .bool (decide ((xa : Int) < (pq : Int)))) (v := .bool true) (by kernel_rfl) (lssT ht6) ⟨(), rfl, (SameB.refl _ _ rfl), S⟩
       trivial
      ·
       rintro ⟨⟩ a z F S
       have F := F.sub (l := [(0, .pointer (some ⟨b, 0, none⟩)), (1, .int .i64 (an : Nat)), (2, .int .i64 (bn : Nat)), (7, .pointer (some ⟨b1, 0, none⟩)), (52, .bool true)]) ⟨by kernel_rfl, by kernel_rfl, by kernel_rfl, by kernel_rfl, by kernel_rfl, trivial⟩
       have S : Sat w z [rest w G, box b 74 [.slice Ah I.has.length ch, .slice Ae I.ends.length ce, .slice Af I.free.length cf, .slice Al qs.length cl], rUl Ah ch I.has, rEl Ae ce I.ends, rFl Af cf I.free, rPl Al cl qs, bag (qs.flatMap legRows), box b1 31 [.int .u64 pq, .int .u64 qq]] := S
       refine then_n ?_
       refine c_t F rfl ?_
       refine s_reg ?_
       refine l_pure 2 (fun L => (9, .int .i64 12) :: (8, .int .i64 0) :: L) F (by kernel_rfl) fun a F => ?_
       refine l_then ?_
       refine wp_ret ?_
       refine then_r (?_)
       exact fin F [.tmp 8, .tmp 9] [.int .i64 0, .int .i64 12] rfl ⟨by kernel_rfl, by kernel_rfl, trivial⟩ (.tuple #[.int .i64 0, .int .i64 12]) rfl ⟨by rw [open_under hxa hxb (by omega) (by omega) (by omega)], by rw [open_under hxa hxb (by omega) (by omega) (by omega)]; exact (ref_shut hqs (by simp) (by simp) (by simp) (by simp) (S.pick [0, 1, 2, 3, 4, 5, 6] (by decide)))⟩
     ·
      skip
      by_cases ht7 : (xb : Int) < (qq : Int)
      ·
       skip
       refine region_gx (fun D => fun (_ : Unit) => [rest w G, box b 74 [.slice Ah I.has.length ch, .slice Ae I.ends.length ce, .slice Af I.free.length cf, .slice Al qs.length cl], rUl Ah ch I.has, rEl Ae ce I.ends, rFl Af cf I.free, rPl Al cl qs, bag (qs.flatMap legRows), box b1 31 [.int .u64 pq, .int .u64 qq]]) (fun (_ : Unit) => [.pointer (some ⟨b, 0, none⟩), .pointer (some ⟨b, 0, none⟩), .pointer (some ⟨b, 0, none⟩), .slice Ah I.has.length ch, .int .i64 (an : Nat), ptrA Ah (an * 1), .int .u64 xa, .pointer (some ⟨b1, 0, none⟩), .int .u64 pq, .bool false, .bool false, .pointer (some ⟨b, 0, none⟩), .pointer (some ⟨b, 0, none⟩), .pointer (some ⟨b, 0, none⟩), .slice Ah I.has.length ch, .int .i64 (bn : Nat), ptrA Ah (bn * 1), .int .u64 xb, .pointer (some ⟨b1, 1, none⟩), .int .u64 qq, .bool true, .bool true]) [(3, [], [5, 6, 9, 14, 16, 17, 19, 20]), (5, [3], [6, 9, 14, 16, 17, 19, 20]), (6, [3, 5], [9, 14, 16, 17, 19, 20]), (8, [], [9, 14, 16, 17, 19, 20]), (9, [3, 5, 6, 8], [14, 16, 17, 19, 20]), (14, [3, 5, 6, 8, 9], [16, 17, 20]), (16, [3, 5, 6, 8, 9, 14], [17, 20]), (17, [3, 5, 6, 8, 9, 14, 16], [20]), (19, [3, 5, 6, 8, 9], [20]), (20, [3, 5, 6, 8, 9, 14, 16, 17, 19], [])] () rfl (by kernel_rfl) (by kernel_rfl) F S.drew ?_ ?_ ?_ ?_ ?_
       · rintro ⟨⟩; rfl
       · rintro ⟨⟩; kernel_rfl
       ·
        intro D D' x h
        cases x
        rfl
       ·
        refine ⟨?_, ?_⟩
        ·
         refine ⟨_, rfl, rfl, by kernel_rfl, ?_⟩
         rintro D ⟨⟩ a z S F
         refine ⟨by kernel_rfl, ?_⟩
         exact op_load _ _ (some ⟨b, 0, none⟩) 0 (.slice Ah I.has.length ch) F rfl (by kernel_rfl) (by kernel_rfl) (cBox S 1 rfl (j := 0) rfl) (⟨(), rfl, (SameB.refl _ _ rfl), S⟩)
        refine ⟨?_, ?_⟩
        ·
         refine ⟨_, rfl, rfl, by kernel_rfl, ?_⟩
         rintro D ⟨⟩ a z S F
         refine ⟨by kernel_rfl, ?_⟩
         exact op_index _ 23 _ _ Ah I.has.length ch an 1 .i64 F rfl (by kernel_rfl) (by kernel_rfl) (by kernel_rfl) (by kernel_rfl) (get_lt hxa) (row_some S 2 rfl (m := an) (get_lt hxa)) (⟨(), rfl, (SameB.refl _ _ rfl), S⟩)
        refine ⟨?_, ?_⟩
        ·
         refine ⟨_, rfl, rfl, by kernel_rfl, ?_⟩
         rintro D ⟨⟩ a z S F
         refine ⟨by kernel_rfl, ?_⟩
         exact op_load _ _ Ah (an * 1) (.int .u64 xa) F rfl (by kernel_rfl) (by kernel_rfl) (cRec S 2 iC_len_u64 rfl 0 hxa rfl) (⟨(), rfl, (SameB.refl _ _ rfl), S⟩)
        refine ⟨?_, ?_⟩
        ·
         refine ⟨_, rfl, rfl, by kernel_rfl, ?_⟩
         rintro D ⟨⟩ a z S F
         refine ⟨by kernel_rfl, ?_⟩
         exact op_load _ _ (some ⟨b1, 0, none⟩) 0 (.int .u64 pq) F rfl (by kernel_rfl) (by kernel_rfl) (cBox S 7 rfl (j := 0) rfl) (⟨(), rfl, (SameB.refl _ _ rfl), S⟩)
        refine ⟨?_, ?_⟩
        ·
         refine ⟨_, rfl, rfl, by kernel_rfl, ?_⟩
         rintro D ⟨⟩ a z S F
         refine ⟨by kernel_rfl, ?_⟩
         exact op_pure F (v0 := .bool (decide ((xa : Int) < (pq : Int)))) (v := .bool false) (by kernel_rfl) (lssF ht6) ⟨(), rfl, (SameB.refl _ _ rfl), S⟩
        refine ⟨?_, ?_⟩
        ·
         refine ⟨_, rfl, rfl, by kernel_rfl, ?_⟩
         rintro D ⟨⟩ a z S F
         refine ⟨by kernel_rfl, ?_⟩
         exact op_load _ _ (some ⟨b, 0, none⟩) 0 (.slice Ah I.has.length ch) F rfl (by kernel_rfl) (by kernel_rfl) (cBox S 1 rfl (j := 0) rfl) (⟨(), rfl, (SameB.refl _ _ rfl), S⟩)
        refine ⟨?_, ?_⟩
        ·
         refine ⟨_, rfl, rfl, by kernel_rfl, ?_⟩
         rintro D ⟨⟩ a z S F
         refine ⟨by kernel_rfl, ?_⟩
         exact op_index _ 23 _ _ Ah I.has.length ch bn 1 .i64 F rfl (by kernel_rfl) (by kernel_rfl) (by kernel_rfl) (by kernel_rfl) (get_lt hxb) (row_some S 2 rfl (m := bn) (get_lt hxb)) (⟨(), rfl, (SameB.refl _ _ rfl), S⟩)
        refine ⟨?_, ?_⟩
        ·
         refine ⟨_, rfl, rfl, by kernel_rfl, ?_⟩
         rintro D ⟨⟩ a z S F
         refine ⟨by kernel_rfl, ?_⟩
         exact op_load _ _ Ah (bn * 1) (.int .u64 xb) F rfl (by kernel_rfl) (by kernel_rfl) (cRec S 2 iC_len_u64 rfl 0 hxb rfl) (⟨(), rfl, (SameB.refl _ _ rfl), S⟩)
        refine ⟨?_, ?_⟩
        ·
         refine ⟨_, rfl, rfl, by kernel_rfl, ?_⟩
         rintro D ⟨⟩ a z S F
         refine ⟨by kernel_rfl, ?_⟩
         exact op_load _ _ (some ⟨b1, 0, none⟩) 1 (.int .u64 qq) F rfl (by kernel_rfl) (by kernel_rfl) (cBox S 7 rfl (j := 1) rfl) (⟨(), rfl, (SameB.refl _ _ rfl), S⟩)
        refine ⟨?_, ?_⟩
        ·
         refine ⟨_, rfl, rfl, by kernel_rfl, ?_⟩
         rintro D ⟨⟩ a z S F
         refine ⟨by kernel_rfl, ?_⟩
         exact op_pure F (v0 := .bool (decide ((xb : Int) < (qq : Int)))) (v := .bool true) (by kernel_rfl) (lssT ht7) ⟨(), rfl, (SameB.refl _ _ rfl), S⟩
        trivial
       ·
        rintro ⟨⟩ a z F S
        have F := F.sub (l := [(0, .pointer (some ⟨b, 0, none⟩)), (1, .int .i64 (an : Nat)), (2, .int .i64 (bn : Nat)), (7, .pointer (some ⟨b1, 0, none⟩)), (52, .bool true)]) ⟨by kernel_rfl, by kernel_rfl, by kernel_rfl, by kernel_rfl, by kernel_rfl, trivial⟩
        have S : Sat w z [rest w G, box b 74 [.slice Ah I.has.length ch, .slice Ae I.ends.length ce, .slice Af I.free.length cf, .slice Al qs.length cl], rUl Ah ch I.has, rEl Ae ce I.ends, rFl Af cf I.free, rPl Al cl qs, bag (qs.flatMap legRows), box b1 31 [.int .u64 pq, .int .u64 qq]] := S
        refine then_n ?_
        refine c_t F rfl ?_
        refine s_reg ?_
        refine l_pure 2 (fun L => (9, .int .i64 12) :: (8, .int .i64 0) :: L) F (by kernel_rfl) fun a F => ?_
        refine l_then ?_
        refine wp_ret ?_
        refine then_r (?_)
        exact fin F [.tmp 8, .tmp 9] [.int .i64 0, .int .i64 12] rfl ⟨by kernel_rfl, by kernel_rfl, trivial⟩ (.tuple #[.int .i64 0, .int .i64 12]) rfl ⟨by rw [open_under hxa hxb (by omega) (by omega) (by omega)], by rw [open_under hxa hxb (by omega) (by omega) (by omega)]; exact (ref_shut hqs (by simp) (by simp) (by simp) (by simp) (S.pick [0, 1, 2, 3, 4, 5, 6] (by decide)))⟩
      ·
       skip
       refine region_gx (fun D => fun (_ : Unit) => [rest w G, box b 74 [.slice Ah I.has.length ch, .slice Ae I.ends.length ce, .slice Af I.free.length cf, .slice Al qs.length cl], rUl Ah ch I.has, rEl Ae ce I.ends, rFl Af cf I.free, rPl Al cl qs, bag (qs.flatMap legRows), box b1 31 [.int .u64 pq, .int .u64 qq]]) (fun (_ : Unit) => [.pointer (some ⟨b, 0, none⟩), .pointer (some ⟨b, 0, none⟩), .pointer (some ⟨b, 0, none⟩), .slice Ah I.has.length ch, .int .i64 (an : Nat), ptrA Ah (an * 1), .int .u64 xa, .pointer (some ⟨b1, 0, none⟩), .int .u64 pq, .bool false, .bool false, .pointer (some ⟨b, 0, none⟩), .pointer (some ⟨b, 0, none⟩), .pointer (some ⟨b, 0, none⟩), .slice Ah I.has.length ch, .int .i64 (bn : Nat), ptrA Ah (bn * 1), .int .u64 xb, .pointer (some ⟨b1, 1, none⟩), .int .u64 qq, .bool false, .bool false]) [(3, [], [5, 6, 9, 14, 16, 17, 19, 20]), (5, [3], [6, 9, 14, 16, 17, 19, 20]), (6, [3, 5], [9, 14, 16, 17, 19, 20]), (8, [], [9, 14, 16, 17, 19, 20]), (9, [3, 5, 6, 8], [14, 16, 17, 19, 20]), (14, [3, 5, 6, 8, 9], [16, 17, 20]), (16, [3, 5, 6, 8, 9, 14], [17, 20]), (17, [3, 5, 6, 8, 9, 14, 16], [20]), (19, [3, 5, 6, 8, 9], [20]), (20, [3, 5, 6, 8, 9, 14, 16, 17, 19], [])] () rfl (by kernel_rfl) (by kernel_rfl) F S.drew ?_ ?_ ?_ ?_ ?_
       · rintro ⟨⟩; rfl
       · rintro ⟨⟩; kernel_rfl
       ·
        intro D D' x h
        cases x
        rfl
       ·
        refine ⟨?_, ?_⟩
        ·
         refine ⟨_, rfl, rfl, by kernel_rfl, ?_⟩
         rintro D ⟨⟩ a z S F
         refine ⟨by kernel_rfl, ?_⟩
         exact op_load _ _ (some ⟨b, 0, none⟩) 0 (.slice Ah I.has.length ch) F rfl (by kernel_rfl) (by kernel_rfl) (cBox S 1 rfl (j := 0) rfl) (⟨(), rfl, (SameB.refl _ _ rfl), S⟩)
        refine ⟨?_, ?_⟩
        ·
         refine ⟨_, rfl, rfl, by kernel_rfl, ?_⟩
         rintro D ⟨⟩ a z S F
         refine ⟨by kernel_rfl, ?_⟩
         exact op_index _ 23 _ _ Ah I.has.length ch an 1 .i64 F rfl (by kernel_rfl) (by kernel_rfl) (by kernel_rfl) (by kernel_rfl) (get_lt hxa) (row_some S 2 rfl (m := an) (get_lt hxa)) (⟨(), rfl, (SameB.refl _ _ rfl), S⟩)
        refine ⟨?_, ?_⟩
        ·
         refine ⟨_, rfl, rfl, by kernel_rfl, ?_⟩
         rintro D ⟨⟩ a z S F
         refine ⟨by kernel_rfl, ?_⟩
         exact op_load _ _ Ah (an * 1) (.int .u64 xa) F rfl (by kernel_rfl) (by kernel_rfl) (cRec S 2 iC_len_u64 rfl 0 hxa rfl) (⟨(), rfl, (SameB.refl _ _ rfl), S⟩)
        refine ⟨?_, ?_⟩
        ·
         refine ⟨_, rfl, rfl, by kernel_rfl, ?_⟩
         rintro D ⟨⟩ a z S F
         refine ⟨by kernel_rfl, ?_⟩
         exact op_load _ _ (some ⟨b1, 0, none⟩) 0 (.int .u64 pq) F rfl (by kernel_rfl) (by kernel_rfl) (cBox S 7 rfl (j := 0) rfl) (⟨(), rfl, (SameB.refl _ _ rfl), S⟩)
        refine ⟨?_, ?_⟩
        ·
         refine ⟨_, rfl, rfl, by kernel_rfl, ?_⟩
         rintro D ⟨⟩ a z S F
         refine ⟨by kernel_rfl, ?_⟩
         exact op_pure F (v0 := .bool (decide ((xa : Int) < (pq : Int)))) (v := .bool false) (by kernel_rfl) (lssF ht6) ⟨(), rfl, (SameB.refl _ _ rfl), S⟩
        refine ⟨?_, ?_⟩
        ·
         refine ⟨_, rfl, rfl, by kernel_rfl, ?_⟩
         rintro D ⟨⟩ a z S F
         refine ⟨by kernel_rfl, ?_⟩
         exact op_load _ _ (some ⟨b, 0, none⟩) 0 (.slice Ah I.has.length ch) F rfl (by kernel_rfl) (by kernel_rfl) (cBox S 1 rfl (j := 0) rfl) (⟨(), rfl, (SameB.refl _ _ rfl), S⟩)
        refine ⟨?_, ?_⟩
        ·
         refine ⟨_, rfl, rfl, by kernel_rfl, ?_⟩
         rintro D ⟨⟩ a z S F
         refine ⟨by kernel_rfl, ?_⟩
         exact op_index _ 23 _ _ Ah I.has.length ch bn 1 .i64 F rfl (by kernel_rfl) (by kernel_rfl) (by kernel_rfl) (by kernel_rfl) (get_lt hxb) (row_some S 2 rfl (m := bn) (get_lt hxb)) (⟨(), rfl, (SameB.refl _ _ rfl), S⟩)
        refine ⟨?_, ?_⟩
        ·
         refine ⟨_, rfl, rfl, by kernel_rfl, ?_⟩
         rintro D ⟨⟩ a z S F
         refine ⟨by kernel_rfl, ?_⟩
         exact op_load _ _ Ah (bn * 1) (.int .u64 xb) F rfl (by kernel_rfl) (by kernel_rfl) (cRec S 2 iC_len_u64 rfl 0 hxb rfl) (⟨(), rfl, (SameB.refl _ _ rfl), S⟩)
        refine ⟨?_, ?_⟩
        ·
         refine ⟨_, rfl, rfl, by kernel_rfl, ?_⟩
         rintro D ⟨⟩ a z S F
         refine ⟨by kernel_rfl, ?_⟩
         exact op_load _ _ (some ⟨b1, 0, none⟩) 1 (.int .u64 qq) F rfl (by kernel_rfl) (by kernel_rfl) (cBox S 7 rfl (j := 1) rfl) (⟨(), rfl, (SameB.refl _ _ rfl), S⟩)
        refine ⟨?_, ?_⟩
        ·
         refine ⟨_, rfl, rfl, by kernel_rfl, ?_⟩
         rintro D ⟨⟩ a z S F
         refine ⟨by kernel_rfl, ?_⟩
         exact op_pure F (v0 := .bool (decide ((xb : Int) < (qq : Int)))) (v := .bool false) (by kernel_rfl) (lssF ht7) ⟨(), rfl, (SameB.refl _ _ rfl), S⟩
        trivial
       ·
        rintro ⟨⟩ a z F S
        have F := F.sub (l := [(0, .pointer (some ⟨b, 0, none⟩)), (1, .int .i64 (an : Nat)), (2, .int .i64 (bn : Nat)), (7, .pointer (some ⟨b1, 0, none⟩)), (52, .bool false)]) ⟨by kernel_rfl, by kernel_rfl, by kernel_rfl, by kernel_rfl, by kernel_rfl, trivial⟩
        have S : Sat w z [rest w G, box b 74 [.slice Ah I.has.length ch, .slice Ae I.ends.length ce, .slice Af I.free.length cf, .slice Al qs.length cl], rUl Ah ch I.has, rEl Ae ce I.ends, rFl Af cf I.free, rPl Al cl qs, bag (qs.flatMap legRows), box b1 31 [.int .u64 pq, .int .u64 qq]] := S
        refine then_n ?_
        refine c_f F rfl ?_
        refine wp_skip ?_
        refine then_n ?_
        refine wp_seq ?_
        refine region_gx (fun D => fun (_ : Unit) => [rest w G, box b 74 [.slice Ah I.has.length ch, .slice Ae I.ends.length ce, .slice Af I.free.length cf, .slice Al qs.length cl], bif D 16 then rU Ah I.has.length ch (I.has.set an (xa - pq)) else rUl Ah ch I.has, rEl Ae ce I.ends, rFl Af cf I.free, rPl Al cl qs, bag (qs.flatMap legRows), box b1 31 [.int .u64 pq, .int .u64 qq]]) (fun (_ : Unit) => [.pointer (some ⟨b, 0, none⟩), .pointer (some ⟨b, 0, none⟩), .pointer (some ⟨b, 0, none⟩), .slice Ah I.has.length ch, .int .i64 (an : Nat), .pointer (some ⟨b, 0, none⟩), .pointer (some ⟨b, 0, none⟩), .pointer (some ⟨b, 0, none⟩), .slice Ah I.has.length ch, .int .i64 (an : Nat), ptrA Ah (an * 1), .int .u64 xa, .pointer (some ⟨b1, 0, none⟩), .int .u64 pq, .int .u64 (xa - pq), ptrA Ah (an * 1), undef]) [(3, [], [15, 16]), (8, [], [10, 11, 14, 15, 16]), (10, [8], [11, 14, 15, 16]), (11, [8, 10], [14, 15, 16]), (13, [], [14, 15, 16]), (14, [8, 10, 11, 13], [15, 16]), (15, [3, 8, 10, 11, 13, 14], [16]), (16, [3, 8, 10, 11, 13, 14, 15], [])] () rfl (by kernel_rfl) (by kernel_rfl) F S.drew ?_ ?_ ?_ ?_ ?_
        · rintro ⟨⟩; rfl
        · rintro ⟨⟩; kernel_rfl
        ·
         intro D D' x h
         cases x
         simp only [h 16 (by decide)]
        ·
         refine ⟨?_, ?_⟩
         ·
          refine ⟨_, rfl, rfl, by kernel_rfl, ?_⟩
          rintro D ⟨⟩ a z S F
          refine ⟨by kernel_rfl, ?_⟩
          exact op_load _ _ (some ⟨b, 0, none⟩) 0 (.slice Ah I.has.length ch) F rfl (by kernel_rfl) (by kernel_rfl) (cBox S 1 rfl (j := 0) rfl) (⟨(), rfl, (SameB.refl _ _ rfl), S⟩)
         refine ⟨?_, ?_⟩
         ·
          refine ⟨_, rfl, rfl, by kernel_rfl, ?_⟩
          rintro D ⟨⟩ a z S F
          refine ⟨by kernel_rfl, ?_⟩
          exact op_load _ _ (some ⟨b, 0, none⟩) 0 (.slice Ah I.has.length ch) F rfl (by kernel_rfl) (by kernel_rfl) (cBox S 1 rfl (j := 0) rfl) (⟨(), rfl, (SameB.refl _ _ rfl), S⟩)
         refine ⟨?_, ?_⟩
         ·
          refine ⟨_, rfl, rfl, by kernel_rfl, ?_⟩
          rintro D ⟨⟩ a z S F
          refine ⟨by kernel_rfl, ?_⟩
          exact op_index _ 23 _ _ Ah I.has.length ch an 1 .i64 F rfl (by kernel_rfl) (by kernel_rfl) (by kernel_rfl) (by kernel_rfl) (get_lt hxa) (row_some S 2 rfl (m := an) (get_lt hxa)) (⟨(), rfl, (SameB.refl _ _ rfl), S⟩)
         refine ⟨?_, ?_⟩
         ·
          refine ⟨_, rfl, rfl, by kernel_rfl, ?_⟩
          rintro D ⟨⟩ a z S F
          refine ⟨by kernel_rfl, ?_⟩
          exact op_load _ _ Ah (an * 1) (.int .u64 xa) F rfl (by kernel_rfl) (by kernel_rfl) (cRec S 2 iC_len_u64 rfl 0 hxa rfl) (⟨(), rfl, (SameB.refl _ _ rfl), S⟩)
         refine ⟨?_, ?_⟩
         ·
          refine ⟨_, rfl, rfl, by kernel_rfl, ?_⟩
          rintro D ⟨⟩ a z S F
          refine ⟨by kernel_rfl, ?_⟩
          exact op_load _ _ (some ⟨b1, 0, none⟩) 0 (.int .u64 pq) F rfl (by kernel_rfl) (by kernel_rfl) (cBox S 7 rfl (j := 0) rfl) (⟨(), rfl, (SameB.refl _ _ rfl), S⟩)
         refine ⟨?_, ?_⟩
         ·
          refine ⟨_, rfl, rfl, by kernel_rfl, ?_⟩
          rintro D ⟨⟩ a z S F
          refine ⟨by kernel_rfl, ?_⟩
          exact op_pure F (v0 := .int .u64 (IntKind.wrap .u64 (xa - pq))) (v := .int .u64 (xa - pq)) (by kernel_rfl) (wr_u64 (by omega) (by omega)) ⟨(), rfl, (SameB.refl _ _ rfl), S⟩
         refine ⟨?_, ?_⟩
         ·
          refine ⟨_, rfl, rfl, by kernel_rfl, ?_⟩
          rintro D ⟨⟩ a z S F
          refine ⟨by kernel_rfl, ?_⟩
          exact op_index _ 23 _ _ Ah I.has.length ch an 1 .i64 F rfl (by kernel_rfl) (by kernel_rfl) (by kernel_rfl) (by kernel_rfl) (get_lt hxa) (row_some S 2 rfl (m := an) (get_lt hxa)) (⟨(), rfl, (SameB.refl _ _ rfl), S⟩)
         refine ⟨?_, ?_⟩
         ·
          refine ⟨_, rfl, rfl, by kernel_rfl, ?_⟩
          rintro D ⟨⟩ a z S F
          refine ⟨by kernel_rfl, ?_⟩
          exact op_storeRec S 2 _ _ _ Ah an 1 0 (.int .u64 (xa - pq)) (xa - pq) F iC_len_u64 hxa rfl rfl (by kernel_rfl) (by kernel_rfl) (by kernel_rfl) (by kernel_rfl) (by kernel_rfl) (by kernel_rfl) (by kernel_rfl) fun z S => ⟨(), rfl, (SameB.refl _ _ rfl), S⟩
         trivial
        ·
         rintro ⟨⟩ a z F S
         have F := F.sub (l := [(0, .pointer (some ⟨b, 0, none⟩)), (1, .int .i64 (an : Nat)), (2, .int .i64 (bn : Nat)), (7, .pointer (some ⟨b1, 0, none⟩))]) ⟨by kernel_rfl, by kernel_rfl, by kernel_rfl, by kernel_rfl, trivial⟩
         have S : Sat w z [rest w G, box b 74 [.slice Ah I.has.length ch, .slice Ae I.ends.length ce, .slice Af I.free.length cf, .slice Al qs.length cl], rU Ah I.has.length ch (I.has.set an (xa - pq)), rEl Ae ce I.ends, rFl Af cf I.free, rPl Al cl qs, bag (qs.flatMap legRows), box b1 31 [.int .u64 pq, .int .u64 qq]] := S
         refine then_n ?_
         refine wp_seq ?_
         refine region_gx (fun D => fun (_ : Unit) => [rest w G, box b 74 [.slice Ah I.has.length ch, .slice Ae I.ends.length ce, .slice Af I.free.length cf, .slice Al qs.length cl], bif D 16 then rU Ah I.has.length ch ((I.has.set an (xa - pq)).set bn (xb - qq)) else rU Ah I.has.length ch (I.has.set an (xa - pq)), rEl Ae ce I.ends, rFl Af cf I.free, rPl Al cl qs, bag (qs.flatMap legRows), box b1 31 [.int .u64 pq, .int .u64 qq]]) (fun (_ : Unit) => [.pointer (some ⟨b, 0, none⟩), .pointer (some ⟨b, 0, none⟩), .pointer (some ⟨b, 0, none⟩), .slice Ah I.has.length ch, .int .i64 (bn : Nat), .pointer (some ⟨b, 0, none⟩), .pointer (some ⟨b, 0, none⟩), .pointer (some ⟨b, 0, none⟩), .slice Ah I.has.length ch, .int .i64 (bn : Nat), ptrA Ah (bn * 1), .int .u64 xb, .pointer (some ⟨b1, 1, none⟩), .int .u64 qq, .int .u64 (xb - qq), ptrA Ah (bn * 1), undef]) [(3, [], [15, 16]), (8, [], [10, 11, 14, 15, 16]), (10, [8], [11, 14, 15, 16]), (11, [8, 10], [14, 15, 16]), (13, [], [14, 15, 16]), (14, [8, 10, 11, 13], [15, 16]), (15, [3, 8, 10, 11, 13, 14], [16]), (16, [3, 8, 10, 11, 13, 14, 15], [])] () rfl (by kernel_rfl) (by kernel_rfl) F S.drew ?_ ?_ ?_ ?_ ?_
         · rintro ⟨⟩; rfl
         · rintro ⟨⟩; kernel_rfl
         ·
          intro D D' x h
          cases x
          simp only [h 16 (by decide)]
         ·
          refine ⟨?_, ?_⟩
          ·
           refine ⟨_, rfl, rfl, by kernel_rfl, ?_⟩
           rintro D ⟨⟩ a z S F
           refine ⟨by kernel_rfl, ?_⟩
           exact op_load _ _ (some ⟨b, 0, none⟩) 0 (.slice Ah I.has.length ch) F rfl (by kernel_rfl) (by kernel_rfl) (cBox S 1 rfl (j := 0) rfl) (⟨(), rfl, (SameB.refl _ _ rfl), S⟩)
          refine ⟨?_, ?_⟩
          ·
           refine ⟨_, rfl, rfl, by kernel_rfl, ?_⟩
           rintro D ⟨⟩ a z S F
           refine ⟨by kernel_rfl, ?_⟩
           exact op_load _ _ (some ⟨b, 0, none⟩) 0 (.slice Ah I.has.length ch) F rfl (by kernel_rfl) (by kernel_rfl) (cBox S 1 rfl (j := 0) rfl) (⟨(), rfl, (SameB.refl _ _ rfl), S⟩)
          refine ⟨?_, ?_⟩
          ·
           refine ⟨_, rfl, rfl, by kernel_rfl, ?_⟩
           rintro D ⟨⟩ a z S F
           refine ⟨by kernel_rfl, ?_⟩
           exact op_index _ 23 _ _ Ah I.has.length ch bn 1 .i64 F rfl (by kernel_rfl) (by kernel_rfl) (by kernel_rfl) (by kernel_rfl) (by have h9 := get_lt (set_ne_at (m := an) (y := (xa - pq)) hxb (by omega)); (try simp only [List.length_set] at h9); omega) (row_some S 2 rfl (m := bn) (by have h9 := get_lt (set_ne_at (m := an) (y := (xa - pq)) hxb (by omega)); (try simp only [List.length_set] at h9); omega)) (⟨(), rfl, (SameB.refl _ _ rfl), S⟩)
          refine ⟨?_, ?_⟩
          ·
           refine ⟨_, rfl, rfl, by kernel_rfl, ?_⟩
           rintro D ⟨⟩ a z S F
           refine ⟨by kernel_rfl, ?_⟩
           exact op_load _ _ Ah (bn * 1) (.int .u64 xb) F rfl (by kernel_rfl) (by kernel_rfl) (cRec S 2 iC_len_u64 rfl 0 (set_ne_at (m := an) (y := (xa - pq)) hxb (by omega)) rfl) (⟨(), rfl, (SameB.refl _ _ rfl), S⟩)
          refine ⟨?_, ?_⟩
          ·
           refine ⟨_, rfl, rfl, by kernel_rfl, ?_⟩
           rintro D ⟨⟩ a z S F
           refine ⟨by kernel_rfl, ?_⟩
           exact op_load _ _ (some ⟨b1, 0, none⟩) 1 (.int .u64 qq) F rfl (by kernel_rfl) (by kernel_rfl) (cBox S 7 rfl (j := 1) rfl) (⟨(), rfl, (SameB.refl _ _ rfl), S⟩)
          refine ⟨?_, ?_⟩
          ·
           refine ⟨_, rfl, rfl, by kernel_rfl, ?_⟩
           rintro D ⟨⟩ a z S F
           refine ⟨by kernel_rfl, ?_⟩
           exact op_pure F (v0 := .int .u64 (IntKind.wrap .u64 (xb - qq))) (v := .int .u64 (xb - qq)) (by kernel_rfl) (wr_u64 (by omega) (by omega)) ⟨(), rfl, (SameB.refl _ _ rfl), S⟩
          refine ⟨?_, ?_⟩
          ·
           refine ⟨_, rfl, rfl, by kernel_rfl, ?_⟩
           rintro D ⟨⟩ a z S F
           refine ⟨by kernel_rfl, ?_⟩
           exact op_index _ 23 _ _ Ah I.has.length ch bn 1 .i64 F rfl (by kernel_rfl) (by kernel_rfl) (by kernel_rfl) (by kernel_rfl) (by have h9 := get_lt (set_ne_at (m := an) (y := (xa - pq)) hxb (by omega)); (try simp only [List.length_set] at h9); omega) (row_some S 2 rfl (m := bn) (by have h9 := get_lt (set_ne_at (m := an) (y := (xa - pq)) hxb (by omega)); (try simp only [List.length_set] at h9); omega)) (⟨(), rfl, (SameB.refl _ _ rfl), S⟩)
          refine ⟨?_, ?_⟩
          ·
           refine ⟨_, rfl, rfl, by kernel_rfl, ?_⟩
           rintro D ⟨⟩ a z S F
           refine ⟨by kernel_rfl, ?_⟩
           exact op_storeRec S 2 _ _ _ Ah bn 1 0 (.int .u64 (xb - qq)) (xb - qq) F iC_len_u64 (set_ne_at (m := an) (y := (xa - pq)) hxb (by omega)) rfl rfl (by kernel_rfl) (by kernel_rfl) (by kernel_rfl) (by kernel_rfl) (by kernel_rfl) (by kernel_rfl) (by kernel_rfl) fun z S => ⟨(), rfl, (SameB.refl _ _ rfl), S⟩
          trivial
         ·
          rintro ⟨⟩ a z F S
          have F := F.sub (l := [(0, .pointer (some ⟨b, 0, none⟩)), (1, .int .i64 (an : Nat)), (2, .int .i64 (bn : Nat)), (7, .pointer (some ⟨b1, 0, none⟩))]) ⟨by kernel_rfl, by kernel_rfl, by kernel_rfl, by kernel_rfl, trivial⟩
          have S : Sat w z [rest w G, box b 74 [.slice Ah I.has.length ch, .slice Ae I.ends.length ce, .slice Af I.free.length cf, .slice Al qs.length cl], rU Ah I.has.length ch ((I.has.set an (xa - pq)).set bn (xb - qq)), rEl Ae ce I.ends, rFl Af cf I.free, rPl Al cl qs, bag (qs.flatMap legRows), box b1 31 [.int .u64 pq, .int .u64 qq]] := S
          refine then_n ?_
          refine s_reg ?_
          refine l_pure 4 (fun L => (88, .pointer (some ⟨b, 1, none⟩)) :: (87, .pointer (some ⟨b, 0, none⟩)) :: (86, .pointer (some ⟨b, 0, none⟩)) :: (85, .pointer (some ⟨b, 0, none⟩)) :: L) F (by kernel_rfl) fun a F => ?_
          refine l_do F rfl rfl (op_load _ _ (some ⟨b, 0, none⟩) 1 (.slice Ae I.ends.length ce) F rfl (by kernel_rfl) (by kernel_rfl) (cBox S 1 rfl (j := 1) rfl) (fun a F => ?_))
          refine l_pure 3 (fun L => (92, .agg #[.int .i64 (an : Nat), .int .i64 (bn : Nat)]) :: (91, .int .i64 (bn : Nat)) :: (90, .int .i64 (an : Nat)) :: L) F (by kernel_rfl) fun a F => ?_
          refine l_do F rfl rfl (op_buildSlice S _ 1 _ 63 2 enC ([((an, bn) : Nat × Nat)] : List (Nat × Nat)) F rfl (by kernel_rfl) (by kernel_rfl) (by kernel_rfl) (by unfold maxLen; omega) fun b8 z S a F => ?_)
          refine l_do F rfl rfl (op_append S 3 _ _ _ 63 (.agg #[.int .i64 0, .int .i64 0]) 2 16 I.ends ([((an, bn) : Nat × Nat)] : List (Nat × Nat)) enC (some ⟨b8, 0, none⟩) 1 F enC_len (fun _ => rfl) rfl rfl (by kernel_rfl) (by kernel_rfl) rfl rfl rfl (by kernel_rfl) (by kernel_rfl) (row_none (S.rowOf (i := 8) rfl)) (src_row (S.rowOf (i := 8) rfl)) (by first | (have := ok.fl; simp; omega) | (simp; omega)) fun A9 c10 z S a F => ?_)
          refine l_pure 2 (fun L => (96, .pointer (some ⟨b, 1, none⟩)) :: (95, .pointer (some ⟨b, 0, none⟩)) :: L) F (by kernel_rfl) fun a F => ?_
          refine l_do F rfl rfl (op_storeB S 1 _ _ _ b 1 (.slice A9 ((I.ends ++ ([((an, bn) : Nat × Nat)] : List (Nat × Nat))).length) c10) F rfl rfl (by kernel_rfl) (by kernel_rfl) (by kernel_rfl) (by kernel_rfl) (by kernel_rfl) fun z S a F => ?_)
          refine l_then ?_
          refine wp_seq ?_
          have S := S.pushEmp
          refine region_gx (fun D => fun ((b11, A12, c13) : Nat × Option Addr × Nat) => [rest w G, bif D 10 then box b 74 [.slice Ah I.has.length ch, .slice A9 ((I.ends ++ ([((an, bn) : Nat × Nat)] : List (Nat × Nat))).length) c10, .slice A12 ((I.free ++ ([((pq, qq) : Int × Int)] : List (Int × Int))).length) c13, .slice Al qs.length cl] else box b 74 [.slice Ah I.has.length ch, .slice A9 ((I.ends ++ ([((an, bn) : Nat × Nat)] : List (Nat × Nat))).length) c10, .slice Af I.free.length cf, .slice Al qs.length cl], rU Ah I.has.length ch ((I.has.set an (xa - pq)).set bn (xb - qq)), rEl A9 c10 (I.ends ++ ([((an, bn) : Nat × Nat)] : List (Nat × Nat))), bif D 7 then rFl A12 c13 (I.free ++ ([((pq, qq) : Int × Int)] : List (Int × Int))) else rFl Af cf I.free, rPl Al cl qs, bag (qs.flatMap legRows), box b1 31 [.int .u64 pq, .int .u64 qq], rE (some ⟨b8, 0, none⟩) 1 1 ([((an, bn) : Nat × Nat)] : List (Nat × Nat)), bif D 6 then rF (some ⟨b11, 0, none⟩) 1 1 ([((pq, qq) : Int × Int)] : List (Int × Int)) else emp]) (fun ((b11, A12, c13) : Nat × Option Addr × Nat) => [.pointer (some ⟨b, 0, none⟩), .pointer (some ⟨b, 0, none⟩), .pointer (some ⟨b, 0, none⟩), .pointer (some ⟨b, 2, none⟩), .slice Af I.free.length cf, .agg #[.int .u64 pq, .int .u64 qq], .slice (some ⟨b11, 0, none⟩) 1 1, .slice A12 ((I.free ++ ([((pq, qq) : Int × Int)] : List (Int × Int))).length) c13, .pointer (some ⟨b, 0, none⟩), .pointer (some ⟨b, 2, none⟩), undef]) [(4, [], [7, 10]), (5, [], [6, 7, 10]), (6, [5], [7, 10]), (7, [4, 5, 6], [10]), (10, [4, 5, 6, 7], [])] (0, none, 0) rfl (by kernel_rfl) (by kernel_rfl) F S.drew ?_ ?_ ?_ ?_ ?_
          · rintro ⟨b11, A12, c13⟩; rfl
          · rintro ⟨b11, A12, c13⟩; kernel_rfl
          ·
           intro D D' x h
           obtain ⟨b11, A12, c13⟩ := x
           simp only [h 6 (by decide), h 7 (by decide), h 10 (by decide)]
          ·
           refine ⟨?_, ?_⟩
           ·
            refine ⟨_, rfl, rfl, by kernel_rfl, ?_⟩
            rintro D ⟨b11, A12, c13⟩ a z S F
            refine ⟨by kernel_rfl, ?_⟩
            exact op_load _ _ (some ⟨b, 0, none⟩) 2 (.slice Af I.free.length cf) F rfl (by kernel_rfl) (by kernel_rfl) (cBox S 1 rfl (j := 2) rfl) (⟨(b11, A12, c13), rfl, (SameB.refl _ _ rfl), S⟩)
           refine ⟨?_, ?_⟩
           ·
            refine ⟨_, rfl, rfl, by kernel_rfl, ?_⟩
            rintro D ⟨b11, A12, c13⟩ a z S F
            refine ⟨by kernel_rfl, ?_⟩
            exact op_loadK _ _ (some ⟨b1, 0, none⟩) 0 [.int .u64 pq, .int .u64 qq] F rfl (by kernel_rfl) (by kernel_rfl) (by kernel_rfl) (by simp) (cBoxK S 7 rfl 0 (by kernel_rfl)) (⟨(b11, A12, c13), rfl, (SameB.refl _ _ rfl), S⟩)
           refine ⟨?_, ?_⟩
           ·
            refine ⟨_, rfl, rfl, by kernel_rfl, ?_⟩
            rintro D ⟨b11, A12, c13⟩ a z S F
            refine ⟨by kernel_rfl, ?_⟩
            exact op_buildSliceF S 9 rfl _ 1 _ 31 2 frC ([((pq, qq) : Int × Int)] : List (Int × Int)) F rfl (by kernel_rfl) (by kernel_rfl) (by kernel_rfl) (by unfold maxLen; omega) fun y14 z S => ⟨(y14, A12, c13), rfl, ⟨rfl, rfl, rfl, rfl, rfl, rfl, trivial, trivial, trivial, trivial, trivial, trivial⟩, S⟩
           refine ⟨?_, ?_⟩
           ·
            refine ⟨_, rfl, rfl, by kernel_rfl, ?_⟩
            rintro D ⟨b11, A12, c13⟩ a z S F
            refine ⟨by kernel_rfl, ?_⟩
            exact op_append S 4 _ _ _ 31 (.agg #[.int .u64 0, .int .u64 0]) 2 16 I.free ([((pq, qq) : Int × Int)] : List (Int × Int)) frC (some ⟨b11, 0, none⟩) 1 F frC_len (fun _ => rfl) rfl rfl (by kernel_rfl) (by kernel_rfl) rfl rfl rfl (by kernel_rfl) (by kernel_rfl) (row_none (S.rowOf (i := 9) rfl)) (src_row (S.rowOf (i := 9) rfl)) (by first | (have := ok.fl; simp; omega) | (simp; omega)) fun y15 y16 z S => ⟨(b11, y15, y16), rfl, ⟨rfl, rfl, rfl, rfl, rfl, rfl, rfl, trivial, trivial, trivial, trivial, trivial⟩, S⟩
           refine ⟨?_, ?_⟩
           ·
            refine ⟨_, rfl, rfl, by kernel_rfl, ?_⟩
            rintro D ⟨b11, A12, c13⟩ a z S F
            refine ⟨by kernel_rfl, ?_⟩
            exact op_storeB S 1 _ _ _ b 2 (.slice A12 ((I.free ++ ([((pq, qq) : Int × Int)] : List (Int × Int))).length) c13) F rfl rfl (by kernel_rfl) (by kernel_rfl) (by kernel_rfl) (by kernel_rfl) (by kernel_rfl) fun z S => ⟨(b11, A12, c13), rfl, (SameB.refl _ _ rfl), S⟩
           trivial
          ·
           rintro ⟨b11, A12, c13⟩ a z F S
           have F := F.sub (l := [(0, .pointer (some ⟨b, 0, none⟩))]) ⟨by kernel_rfl, trivial⟩
           have S : Sat w z [rest w G, box b 74 [.slice Ah I.has.length ch, .slice A9 ((I.ends ++ ([((an, bn) : Nat × Nat)] : List (Nat × Nat))).length) c10, .slice A12 ((I.free ++ ([((pq, qq) : Int × Int)] : List (Int × Int))).length) c13, .slice Al qs.length cl], rU Ah I.has.length ch ((I.has.set an (xa - pq)).set bn (xb - qq)), rEl A9 c10 (I.ends ++ ([((an, bn) : Nat × Nat)] : List (Nat × Nat))), rFl A12 c13 (I.free ++ ([((pq, qq) : Int × Int)] : List (Int × Int))), rPl Al cl qs, bag (qs.flatMap legRows), box b1 31 [.int .u64 pq, .int .u64 qq], rE (some ⟨b8, 0, none⟩) 1 1 ([((an, bn) : Nat × Nat)] : List (Nat × Nat)), rF (some ⟨b11, 0, none⟩) 1 1 ([((pq, qq) : Int × Int)] : List (Int × Int))] := S
           have hlen9 : (I.ends ++ ([((an, bn) : Nat × Nat)] : List (Nat × Nat))).length = I.ends.length + 1 := by simp
           refine then_n ?_
           refine s_reg ?_
           refine l_pure 3 (fun L => (109, .pointer (some ⟨b, 1, none⟩)) :: (108, .pointer (some ⟨b, 0, none⟩)) :: (107, .pointer (some ⟨b, 0, none⟩)) :: L) F (by kernel_rfl) fun a F => ?_
           refine l_do F rfl rfl (op_load _ _ (some ⟨b, 0, none⟩) 1 (.slice A9 ((I.ends ++ ([((an, bn) : Nat × Nat)] : List (Nat × Nat))).length) c10) F rfl (by kernel_rfl) (by kernel_rfl) (cBox S 1 rfl (j := 1) rfl) (fun a F => ?_))
           refine l_pure 1 (fun L => (111, .int .i64 ((I.ends ++ ([((an, bn) : Nat × Nat)] : List (Nat × Nat))).length : Nat)) :: L) F (by kernel_rfl) fun a F => ?_
           refine l_do F rfl rfl (op_pure F (v0 := .int .i64 (IntKind.wrap .i64 (((I.ends ++ ([((an, bn) : Nat × Nat)] : List (Nat × Nat))).length : Nat) - 1))) (v := .int .i64 ((I.ends ++ ([((an, bn) : Nat × Nat)] : List (Nat × Nat))).length - 1 : Nat)) (by kernel_rfl) (wrn_i64 (by omega) (by omega) (by omega)) fun a F => ?_)
           refine l_pure 2 (fun L => (9, .int .i64 0) :: (8, .int .i64 ((I.ends ++ ([((an, bn) : Nat × Nat)] : List (Nat × Nat))).length - 1 : Nat)) :: L) F (by kernel_rfl) fun a F => ?_
           refine l_then ?_
           refine wp_ret ?_
           exact fin F [.tmp 8, .tmp 9] [.int .i64 ((I.ends ++ ([((an, bn) : Nat × Nat)] : List (Nat × Nat))).length - 1 : Nat), .int .i64 0] rfl ⟨by kernel_rfl, by kernel_rfl, trivial⟩ (.tuple #[.int .i64 ((I.ends ++ ([((an, bn) : Nat × Nat)] : List (Nat × Nat))).length - 1 : Nat), .int .i64 0]) rfl ⟨by rw [open_ok hxa hxb (by omega) (by omega) (by omega)]; simp, by rw [open_ok hxa hxb (by omega) (by omega) (by omega)]; exact (ref_shut hqs (by simp) (by simp) (by simp) (by simp) (S.pick [0, 1, 2, 3, 4, 5, 6] (by decide)))⟩
set_option maxRecDepth 100000 in
set_option maxHeartbeats 4000000 in
theorem rput24_any (w : World) (G : Nat → Prop) (b : Nat) (I : Idl) (ok : IOk I) (hS : Sat w w [refA b I, rest w G]) (cid who am : Int) (ham : U64 am) : Calls Try.prog 33 #[.pointer (some ⟨b, 0, none⟩), .int .i64 cid, .int .i64 who, .int .u64 am] w fun e w' => e = .returned (.int .i64 (putP I cid who am).2) ∧ Sat w w' [refA b (putP I cid who am).1, rest w G] := by
 have ham2 := ham
 unfold U64 at ham2
 refine enter 66 Try.func33 rfl rfl rfl fun a F => ?_
 obtain ⟨Ah, ch, Ae, ce, Af, cf, Al, cl, qs, hqs, S⟩ := ref_open hS
 refine s_reg ?_
 refine l_pure 1 (fun L => (8, .int .i64 0) :: L) F (by kernel_rfl) fun a F => ?_
 refine l_then ?_
 refine s_reg ?_
 refine l_pure 3 (fun L => (14, .int .i64 who) :: (13, .int .i64 cid) :: (12, .pointer (some ⟨b, 0, none⟩)) :: L) F (by kernel_rfl) fun a F => ?_
 rcases side_cases24 I.ends cid who with ⟨hsd, hbad⟩ | ⟨nn, pa, qa, rfl, rfl, he, hsd⟩ | ⟨nn, pa, qa, rfl, rfl, he, hpq, hsd⟩ | ⟨nn, pa, qa, rfl, he, hw1, hw2, hsd⟩
 ·
  skip
  have hnl := ok.fl
  obtain ⟨G9, g9, hin9, hlt9, k9⟩ := S.frameB [1, 3] (by decide) rfl
  refine l_do F rfl rfl (op_fn F (by kernel_rfl) (rside24_at hsd _ G9 b Ah I.has.length ch Ae ce Af I.free.length cf Al qs.length cl g9) ?_)
  rintro e z9 ⟨rfl, g⟩
  have S : Sat w z9 [rest w G, box b 74 [.slice Ah I.has.length ch, .slice Ae I.ends.length ce, .slice Af I.free.length cf, .slice Al qs.length cl], rUl Ah ch I.has, rEl Ae ce I.ends, rFl Af cf I.free, rPl Al cl qs, bag (qs.flatMap legRows)] := k9 z9 [box b 74 [.slice Ah I.has.length ch, .slice Ae I.ends.length ce, .slice Af I.free.length cf, .slice Al qs.length cl], rEl Ae ce I.ends] rfl g
  clear g g9 k9 hin9 hlt9
  refine ⟨_, rfl, ?_⟩
  intro a F
  refine l_pure 5 (fun L => (10, .int .i64 6) :: (9, .int .i64 0) :: (17, .int .i64 6) :: (16, .int .i64 0) :: (11, .tuple #[.int .i64 0, .int .i64 6]) :: L) F (by kernel_rfl) fun a F => ?_
  refine l_then ?_
  refine wp_seq ?_
  refine s_reg ?_
  refine l_pure 2 (fun L => (19, .bool true) :: (18, .int .i64 6) :: L) F (by kernel_rfl) fun a F => ?_
  refine l_then ?_
  refine c_t F rfl ?_
  refine s_reg ?_
  refine l_pure 2 (fun L => (8, .int .i64 6) :: (20, .int .i64 6) :: L) F (by kernel_rfl) fun a F => ?_
  refine l_then ?_
  refine wp_ret ?_
  refine then_r (?_)
  exact fin F [.tmp 8] [.int .i64 6] rfl ⟨by kernel_rfl, trivial⟩ (.int .i64 6) rfl ⟨by rw [put_err (by rw [hsd]; decide), hsd], by rw [put_err (by rw [hsd]; decide)]; exact (ref_shut hqs (by simp) (by simp) (by simp) (by simp) (S.pick [0, 1, 2, 3, 4, 5, 6] (by decide)))⟩
 ·
  skip
  have hsm := ok.sums
  obtain ⟨hpl, hql, hpq9⟩ := ok.en _ (List.mem_of_getElem? he)
  dsimp only at hpl hql hpq9
  have hnn := (List.getElem?_eq_some_iff.1 he).1
  have hfl := ok.fl
  obtain ⟨xf, hxf⟩ : ∃ xf, I.free[nn]? = some xf := ⟨_, List.getElem?_eq_getElem (by omega)⟩
  have hx2 := sumF_one ok.fu hxf
  obtain ⟨xh, hxh⟩ : ∃ xh, I.has[pa]? = some xh := ⟨_, List.getElem?_eq_getElem (by omega)⟩
  have hx1 := sumI_one I.has pa xh ok.hu hxh
  obtain ⟨G9, g9, hin9, hlt9, k9⟩ := S.frameB [1, 3] (by decide) rfl
  refine l_do F rfl rfl (op_fn F (by kernel_rfl) (rside24_at hsd _ G9 b Ah I.has.length ch Ae ce Af I.free.length cf Al qs.length cl g9) ?_)
  rintro e z9 ⟨rfl, g⟩
  have S : Sat w z9 [rest w G, box b 74 [.slice Ah I.has.length ch, .slice Ae I.ends.length ce, .slice Af I.free.length cf, .slice Al qs.length cl], rUl Ah ch I.has, rEl Ae ce I.ends, rFl Af cf I.free, rPl Al cl qs, bag (qs.flatMap legRows)] := k9 z9 [box b 74 [.slice Ah I.has.length ch, .slice Ae I.ends.length ce, .slice Af I.free.length cf, .slice Al qs.length cl], rEl Ae ce I.ends] rfl g
  clear g g9 k9 hin9 hlt9
  refine ⟨_, rfl, ?_⟩
  intro a F
  refine l_pure 5 (fun L => (10, .int .i64 0) :: (9, .int .i64 0) :: (17, .int .i64 0) :: (16, .int .i64 0) :: (11, .tuple #[.int .i64 0, .int .i64 0]) :: L) F (by kernel_rfl) fun a F => ?_
  refine l_then ?_
  refine wp_seq ?_
  refine s_reg ?_
  refine l_pure 2 (fun L => (19, .bool false) :: (18, .int .i64 0) :: L) F (by kernel_rfl) fun a F => ?_
  refine l_then ?_
  refine c_f F rfl ?_
  refine wp_skip ?_
  refine then_n ?_
  refine wp_seq ?_
  refine s_reg ?_
  refine l_pure 1 (fun L => (21, .int .u64 am) :: L) F (by kernel_rfl) fun a F => ?_
  by_cases ht1 : (am : Int) = (0 : Int)
  ·
   skip
   refine l_do F rfl rfl (op_pure F (v0 := .bool ((am : Int) == (0 : Int))) (v := .bool true) (by kernel_rfl) (eqlT ht1) fun a F => ?_)
   refine l_then ?_
   refine c_t F rfl ?_
   refine s_reg ?_
   refine l_pure 1 (fun L => (8, .int .i64 1) :: L) F (by kernel_rfl) fun a F => ?_
   refine l_then ?_
   refine wp_ret ?_
   refine then_r (?_)
   exact fin F [.tmp 8] [.int .i64 1] rfl ⟨by kernel_rfl, trivial⟩ (.int .i64 1) rfl ⟨by rw [put_zero (by rw [hsd]) ht1], by rw [put_zero (by rw [hsd]) ht1]; exact (ref_shut hqs (by simp) (by simp) (by simp) (by simp) (S.pick [0, 1, 2, 3, 4, 5, 6] (by decide)))⟩
  ·
   skip
   refine l_do F rfl rfl (op_pure F (v0 := .bool ((am : Int) == (0 : Int))) (v := .bool false) (by kernel_rfl) (eqlF ht1) fun a F => ?_)
   refine l_then ?_
   refine c_f F rfl ?_
   refine wp_skip ?_
   refine then_n ?_
   refine wp_seq ?_
   refine s_reg ?_
   refine l_pure 3 (fun L => (25, .pointer (some ⟨b, 0, none⟩)) :: (24, .pointer (some ⟨b, 0, none⟩)) :: (23, .pointer (some ⟨b, 0, none⟩)) :: L) F (by kernel_rfl) fun a F => ?_
   refine l_do F rfl rfl (op_load _ _ (some ⟨b, 0, none⟩) 0 (.slice Ah I.has.length ch) F rfl (by kernel_rfl) (by kernel_rfl) (cBox S 1 rfl (j := 0) rfl) (fun a F => ?_))
   refine l_pure 1 (fun L => (27, .int .i64 (pa : Nat)) :: L) F (by kernel_rfl) fun a F => ?_
   refine l_do F rfl rfl (op_index _ 23 _ _ Ah I.has.length ch pa 1 .i64 F rfl (by kernel_rfl) (by kernel_rfl) (by kernel_rfl) (by kernel_rfl) (get_lt hxh) (row_some S 2 rfl (m := pa) (get_lt hxh)) (fun a F => ?_))
   refine l_do F rfl rfl (op_load _ _ Ah (pa * 1) (.int .u64 xh) F rfl (by kernel_rfl) (by kernel_rfl) (cRec S 2 iC_len_u64 rfl 0 hxh rfl) (fun a F => ?_))
   refine l_pure 1 (fun L => (30, .int .u64 am) :: L) F (by kernel_rfl) fun a F => ?_
   by_cases ht2 : (xh : Int) < (am : Int)
   ·
    skip
    refine l_do F rfl rfl (op_pure F (v0 := .bool (decide ((xh : Int) < (am : Int)))) (v := .bool true) (by kernel_rfl) (lssT ht2) fun a F => ?_)
    refine l_then ?_
    refine c_t F rfl ?_
    refine s_reg ?_
    refine l_pure 1 (fun L => (8, .int .i64 12) :: L) F (by kernel_rfl) fun a F => ?_
    refine l_then ?_
    refine wp_ret ?_
    refine then_r (?_)
    exact fin F [.tmp 8] [.int .i64 12] rfl ⟨by kernel_rfl, trivial⟩ (.int .i64 12) rfl ⟨by rw [put_under (s := 0) hsd ht1 hxh (by omega)], by rw [put_under (s := 0) hsd ht1 hxh (by omega)]; exact (ref_shut hqs (by simp) (by simp) (by simp) (by simp) (S.pick [0, 1, 2, 3, 4, 5, 6] (by decide)))⟩
   ·
    skip
    refine l_do F rfl rfl (op_pure F (v0 := .bool (decide ((xh : Int) < (am : Int)))) (v := .bool false) (by kernel_rfl) (lssF ht2) fun a F => ?_)
    refine l_then ?_
    refine c_f F rfl ?_
    refine wp_skip ?_
    refine then_n ?_
    refine wp_seq ?_
    have hn3 : Option.isSome Ah = true := (row_some S 2 rfl (m := pa) (get_lt hxh))
    refine region_gx (fun D => fun (_ : Unit) => [rest w G, box b 74 [.slice Ah I.has.length ch, .slice Ae I.ends.length ce, .slice Af I.free.length cf, .slice Al qs.length cl], bif D 15 then rU Ah I.has.length ch (I.has.set pa (xh - am)) else rUl Ah ch I.has, rEl Ae ce I.ends, rFl Af cf I.free, rPl Al cl qs, bag (qs.flatMap legRows)]) (fun (_ : Unit) => [.pointer (some ⟨b, 0, none⟩), .pointer (some ⟨b, 0, none⟩), .pointer (some ⟨b, 0, none⟩), .slice Ah I.has.length ch, .int .i64 (pa : Nat), .pointer (some ⟨b, 0, none⟩), .pointer (some ⟨b, 0, none⟩), .pointer (some ⟨b, 0, none⟩), .slice Ah I.has.length ch, .int .i64 (pa : Nat), ptrA Ah (pa * 1), .int .u64 xh, .int .u64 am, .int .u64 (xh - am), ptrA Ah (pa * 1), undef]) [(3, [], [14, 15]), (8, [], [10, 11, 13, 14, 15]), (10, [8], [11, 13, 14, 15]), (11, [8, 10], [13, 14, 15]), (13, [8, 10, 11], [14, 15]), (14, [3, 8, 10, 11, 13], [15]), (15, [3, 8, 10, 11, 13, 14], [])] () rfl (by kernel_rfl) (by kernel_rfl) F S.drew ?_ ?_ ?_ ?_ ?_
    · rintro ⟨⟩; rfl
    · rintro ⟨⟩; kernel_rfl
    ·
     intro D D' x h
     cases x
     simp only [h 15 (by decide)]
    ·
     refine ⟨?_, ?_⟩
     ·
      refine ⟨_, rfl, rfl, by kernel_rfl, ?_⟩
      rintro D ⟨⟩ a z S F
      refine ⟨by kernel_rfl, ?_⟩
      exact op_load _ _ (some ⟨b, 0, none⟩) 0 (.slice Ah I.has.length ch) F rfl (by kernel_rfl) (by kernel_rfl) (cBox S 1 rfl (j := 0) rfl) (⟨(), rfl, (SameB.refl _ _ rfl), S⟩)
     refine ⟨?_, ?_⟩
     ·
      refine ⟨_, rfl, rfl, by kernel_rfl, ?_⟩
      rintro D ⟨⟩ a z S F
      refine ⟨by kernel_rfl, ?_⟩
      exact op_load _ _ (some ⟨b, 0, none⟩) 0 (.slice Ah I.has.length ch) F rfl (by kernel_rfl) (by kernel_rfl) (cBox S 1 rfl (j := 0) rfl) (⟨(), rfl, (SameB.refl _ _ rfl), S⟩)
     refine ⟨?_, ?_⟩
     ·
      refine ⟨_, rfl, rfl, by kernel_rfl, ?_⟩
      rintro D ⟨⟩ a z S F
      refine ⟨by kernel_rfl, ?_⟩
      exact op_index _ 23 _ _ Ah I.has.length ch pa 1 .i64 F rfl (by kernel_rfl) (by kernel_rfl) (by kernel_rfl) (by kernel_rfl) (get_lt hxh) hn3 (⟨(), rfl, (SameB.refl _ _ rfl), S⟩)
     refine ⟨?_, ?_⟩
     ·
      refine ⟨_, rfl, rfl, by kernel_rfl, ?_⟩
      rintro D ⟨⟩ a z S F
      refine ⟨by kernel_rfl, ?_⟩
      exact op_load _ _ Ah (pa * 1) (.int .u64 xh) F rfl (by kernel_rfl) (by kernel_rfl) (cRec S 2 iC_len_u64 rfl 0 hxh rfl) (⟨(), rfl, (SameB.refl _ _ rfl), S⟩)
     refine ⟨?_, ?_⟩
     ·
      refine ⟨_, rfl, rfl, by kernel_rfl, ?_⟩
      rintro D ⟨⟩ a z S F
      refine ⟨by kernel_rfl, ?_⟩
      exact op_pure F (v0 := .int .u64 (IntKind.wrap .u64 (xh - am))) (v := .int .u64 (xh - am)) (by kernel_rfl) (wr_u64 (by omega) (by omega)) ⟨(), rfl, (SameB.refl _ _ rfl), S⟩
     refine ⟨?_, ?_⟩
     ·
      refine ⟨_, rfl, rfl, by kernel_rfl, ?_⟩
      rintro D ⟨⟩ a z S F
      refine ⟨by kernel_rfl, ?_⟩
      exact op_index _ 23 _ _ Ah I.has.length ch pa 1 .i64 F rfl (by kernel_rfl) (by kernel_rfl) (by kernel_rfl) (by kernel_rfl) (get_lt hxh) hn3 (⟨(), rfl, (SameB.refl _ _ rfl), S⟩)
     refine ⟨?_, ?_⟩
     ·
      refine ⟨_, rfl, rfl, by kernel_rfl, ?_⟩
      rintro D ⟨⟩ a z S F
      refine ⟨by kernel_rfl, ?_⟩
      exact op_storeRec S 2 _ _ _ Ah pa 1 0 (.int .u64 (xh - am)) (xh - am) F iC_len_u64 hxh rfl rfl (by kernel_rfl) (by kernel_rfl) (by kernel_rfl) (by kernel_rfl) (by kernel_rfl) (by kernel_rfl) (by kernel_rfl) fun z S => ⟨(), rfl, (SameB.refl _ _ rfl), S⟩
     trivial
    ·
     rintro ⟨⟩ a z F S
     have F := F.sub (l := [(0, .pointer (some ⟨b, 0, none⟩)), (1, .int .i64 (nn : Nat)), (3, .int .u64 am), (9, .int .i64 0)]) ⟨by kernel_rfl, by kernel_rfl, by kernel_rfl, by kernel_rfl, trivial⟩
     have S : Sat w z [rest w G, box b 74 [.slice Ah I.has.length ch, .slice Ae I.ends.length ce, .slice Af I.free.length cf, .slice Al qs.length cl], rU Ah I.has.length ch (I.has.set pa (xh - am)), rEl Ae ce I.ends, rFl Af cf I.free, rPl Al cl qs, bag (qs.flatMap legRows)] := S
     refine then_n ?_
     refine wp_seq ?_
     refine region_gx (fun D => fun (_ : Unit) => [rest w G, box b 74 [.slice Ah I.has.length ch, .slice Ae I.ends.length ce, .slice Af I.free.length cf, .slice Al qs.length cl], rU Ah I.has.length ch (I.has.set pa (xh - am)), rEl Ae ce I.ends, bif D 19 then rF Af I.free.length cf (I.free.set nn ((xf.1 + am, xf.2) : Int × Int)) else rFl Af cf I.free, rPl Al cl qs, bag (qs.flatMap legRows)]) (fun (_ : Unit) => [.pointer (some ⟨b, 0, none⟩), .pointer (some ⟨b, 0, none⟩), .pointer (some ⟨b, 2, none⟩), .slice Af I.free.length cf, .int .i64 (nn : Nat), .int .i64 0, .pointer (some ⟨b, 0, none⟩), .pointer (some ⟨b, 0, none⟩), .pointer (some ⟨b, 2, none⟩), .slice Af I.free.length cf, .int .i64 (nn : Nat), .int .i64 0, ptrA Af (nn * 2), ptrA Af (nn * 2), .int .u64 xf.1, .int .u64 am, .int .u64 (xf.1 + am), ptrA Af (nn * 2), ptrA Af (nn * 2), undef]) [(3, [], [17, 18, 19]), (9, [], [12, 13, 14, 16, 18, 19]), (12, [9], [13, 14, 16, 18, 19]), (13, [9, 12], [14, 16, 18, 19]), (14, [9, 12, 13], [16, 18, 19]), (16, [9, 12, 13, 14], [18, 19]), (17, [3], [18, 19]), (18, [3, 9, 12, 13, 14, 16, 17], [19]), (19, [3, 9, 12, 13, 14, 16, 17, 18], [])] () rfl (by kernel_rfl) (by kernel_rfl) F S.drew ?_ ?_ ?_ ?_ ?_
     · rintro ⟨⟩; rfl
     · rintro ⟨⟩; kernel_rfl
     ·
      intro D D' x h
      cases x
      simp only [h 19 (by decide)]
     ·
      refine ⟨?_, ?_⟩
      ·
       refine ⟨_, rfl, rfl, by kernel_rfl, ?_⟩
       rintro D ⟨⟩ a z S F
       refine ⟨by kernel_rfl, ?_⟩
       exact op_load _ _ (some ⟨b, 0, none⟩) 2 (.slice Af I.free.length cf) F rfl (by kernel_rfl) (by kernel_rfl) (cBox S 1 rfl (j := 2) rfl) (⟨(), rfl, (SameB.refl _ _ rfl), S⟩)
      refine ⟨?_, ?_⟩
      ·
       refine ⟨_, rfl, rfl, by kernel_rfl, ?_⟩
       rintro D ⟨⟩ a z S F
       refine ⟨by kernel_rfl, ?_⟩
       exact op_load _ _ (some ⟨b, 0, none⟩) 2 (.slice Af I.free.length cf) F rfl (by kernel_rfl) (by kernel_rfl) (cBox S 1 rfl (j := 2) rfl) (⟨(), rfl, (SameB.refl _ _ rfl), S⟩)
      refine ⟨?_, ?_⟩
      ·
       refine ⟨_, rfl, rfl, by kernel_rfl, ?_⟩
       rintro D ⟨⟩ a z S F
       refine ⟨by kernel_rfl, ?_⟩
       exact op_index _ 31 _ _ Af I.free.length cf nn 2 .i64 F rfl (by kernel_rfl) (by kernel_rfl) (by kernel_rfl) (by kernel_rfl) (get_lt hxf) (row_some S 4 rfl (m := nn) (get_lt hxf)) (⟨(), rfl, (SameB.refl _ _ rfl), S⟩)
      refine ⟨?_, ?_⟩
      ·
       refine ⟨_, rfl, rfl, by kernel_rfl, ?_⟩
       rintro D ⟨⟩ a z S F
       refine ⟨by kernel_rfl, ?_⟩
       exact op_indexArr _ 23 _ _ Af (nn * 2) 2 0 1 .i64 F rfl (by kernel_rfl) (by kernel_rfl) (by kernel_rfl) (by kernel_rfl) (by decide) (row_some S 4 rfl (m := nn) (get_lt hxf)) (⟨(), rfl, (SameB.refl _ _ rfl), S⟩)
      refine ⟨?_, ?_⟩
      ·
       refine ⟨_, rfl, rfl, by kernel_rfl, ?_⟩
       rintro D ⟨⟩ a z S F
       refine ⟨by kernel_rfl, ?_⟩
       exact op_load _ _ Af (nn * 2) (.int .u64 xf.1) F rfl (by kernel_rfl) (by kernel_rfl) (cRec S 4 frC_len rfl 0 hxf rfl) (⟨(), rfl, (SameB.refl _ _ rfl), S⟩)
      refine ⟨?_, ?_⟩
      ·
       refine ⟨_, rfl, rfl, by kernel_rfl, ?_⟩
       rintro D ⟨⟩ a z S F
       refine ⟨by kernel_rfl, ?_⟩
       exact op_pure F (v0 := .int .u64 (IntKind.wrap .u64 (xf.1 + am))) (v := .int .u64 (xf.1 + am)) (by kernel_rfl) (wr_u64 (by omega) (by omega)) ⟨(), rfl, (SameB.refl _ _ rfl), S⟩
      refine ⟨?_, ?_⟩
      ·
       refine ⟨_, rfl, rfl, by kernel_rfl, ?_⟩
       rintro D ⟨⟩ a z S F
       refine ⟨by kernel_rfl, ?_⟩
       exact op_index _ 31 _ _ Af I.free.length cf nn 2 .i64 F rfl (by kernel_rfl) (by kernel_rfl) (by kernel_rfl) (by kernel_rfl) (get_lt hxf) (row_some S 4 rfl (m := nn) (get_lt hxf)) (⟨(), rfl, (SameB.refl _ _ rfl), S⟩)
      refine ⟨?_, ?_⟩
      ·
       refine ⟨_, rfl, rfl, by kernel_rfl, ?_⟩
       rintro D ⟨⟩ a z S F
       refine ⟨by kernel_rfl, ?_⟩
       exact op_indexArr _ 23 _ _ Af (nn * 2) 2 0 1 .i64 F rfl (by kernel_rfl) (by kernel_rfl) (by kernel_rfl) (by kernel_rfl) (by decide) (row_some S 4 rfl (m := nn) (get_lt hxf)) (⟨(), rfl, (SameB.refl _ _ rfl), S⟩)
      refine ⟨?_, ?_⟩
      ·
       refine ⟨_, rfl, rfl, by kernel_rfl, ?_⟩
       rintro D ⟨⟩ a z S F
       refine ⟨by kernel_rfl, ?_⟩
       exact op_storeRec S 4 _ _ _ Af nn 2 0 (.int .u64 (xf.1 + am)) ((xf.1 + am, xf.2) : Int × Int) F frC_len hxf rfl rfl (by kernel_rfl) (by kernel_rfl) (by kernel_rfl) (by kernel_rfl) (by kernel_rfl) (by kernel_rfl) (by kernel_rfl) fun z S => ⟨(), rfl, (SameB.refl _ _ rfl), S⟩
      trivial
     ·
      rintro ⟨⟩ a z F S
      have F := F.sub (l := []) trivial
      have S : Sat w z [rest w G, box b 74 [.slice Ah I.has.length ch, .slice Ae I.ends.length ce, .slice Af I.free.length cf, .slice Al qs.length cl], rU Ah I.has.length ch (I.has.set pa (xh - am)), rEl Ae ce I.ends, rF Af I.free.length cf (I.free.set nn ((xf.1 + am, xf.2) : Int × Int)), rPl Al cl qs, bag (qs.flatMap legRows)] := S
      refine then_n ?_
      refine s_reg ?_
      refine l_pure 1 (fun L => (8, .int .i64 0) :: L) F (by kernel_rfl) fun a F => ?_
      refine l_then ?_
      refine wp_ret ?_
      exact fin F [.tmp 8] [.int .i64 0] rfl ⟨by kernel_rfl, trivial⟩ (.int .i64 0) rfl ⟨by rw [put_ok (s := 0) hsd ht1 hxh (by omega) hxf], by rw [put_ok (s := 0) hsd ht1 hxh (by omega) hxf]; exact (ref_shut hqs (by simp) (by simp) (by simp) (by simp) (S.pick [0, 1, 2, 3, 4, 5, 6] (by decide)))⟩
 ·
  skip
  have hsm := ok.sums
  obtain ⟨hpl, hql, hpq9⟩ := ok.en _ (List.mem_of_getElem? he)
  dsimp only at hpl hql hpq9
  have hnn := (List.getElem?_eq_some_iff.1 he).1
  have hfl := ok.fl
  obtain ⟨xf, hxf⟩ : ∃ xf, I.free[nn]? = some xf := ⟨_, List.getElem?_eq_getElem (by omega)⟩
  have hx2 := sumF_one ok.fu hxf
  obtain ⟨xh, hxh⟩ : ∃ xh, I.has[qa]? = some xh := ⟨_, List.getElem?_eq_getElem (by omega)⟩
  have hx1 := sumI_one I.has qa xh ok.hu hxh
  obtain ⟨G9, g9, hin9, hlt9, k9⟩ := S.frameB [1, 3] (by decide) rfl
  refine l_do F rfl rfl (op_fn F (by kernel_rfl) (rside24_at hsd _ G9 b Ah I.has.length ch Ae ce Af I.free.length cf Al qs.length cl g9) ?_)
  rintro e z9 ⟨rfl, g⟩
  have S : Sat w z9 [rest w G, box b 74 [.slice Ah I.has.length ch, .slice Ae I.ends.length ce, .slice Af I.free.length cf, .slice Al qs.length cl], rUl Ah ch I.has, rEl Ae ce I.ends, rFl Af cf I.free, rPl Al cl qs, bag (qs.flatMap legRows)] := k9 z9 [box b 74 [.slice Ah I.has.length ch, .slice Ae I.ends.length ce, .slice Af I.free.length cf, .slice Al qs.length cl], rEl Ae ce I.ends] rfl g
  clear g g9 k9 hin9 hlt9
  refine ⟨_, rfl, ?_⟩
  intro a F
  refine l_pure 5 (fun L => (10, .int .i64 0) :: (9, .int .i64 1) :: (17, .int .i64 0) :: (16, .int .i64 1) :: (11, .tuple #[.int .i64 1, .int .i64 0]) :: L) F (by kernel_rfl) fun a F => ?_
  refine l_then ?_
  refine wp_seq ?_
  refine s_reg ?_
  refine l_pure 2 (fun L => (19, .bool false) :: (18, .int .i64 0) :: L) F (by kernel_rfl) fun a F => ?_
  refine l_then ?_
  refine c_f F rfl ?_
  refine wp_skip ?_
  refine then_n ?_
  refine wp_seq ?_
  refine s_reg ?_
  refine l_pure 1 (fun L => (21, .int .u64 am) :: L) F (by kernel_rfl) fun a F => ?_
  by_cases ht4 : (am : Int) = (0 : Int)
  ·
   skip
   refine l_do F rfl rfl (op_pure F (v0 := .bool ((am : Int) == (0 : Int))) (v := .bool true) (by kernel_rfl) (eqlT ht4) fun a F => ?_)
   refine l_then ?_
   refine c_t F rfl ?_
   refine s_reg ?_
   refine l_pure 1 (fun L => (8, .int .i64 1) :: L) F (by kernel_rfl) fun a F => ?_
   refine l_then ?_
   refine wp_ret ?_
   refine then_r (?_)
   exact fin F [.tmp 8] [.int .i64 1] rfl ⟨by kernel_rfl, trivial⟩ (.int .i64 1) rfl ⟨by rw [put_zero (by rw [hsd]) ht4], by rw [put_zero (by rw [hsd]) ht4]; exact (ref_shut hqs (by simp) (by simp) (by simp) (by simp) (S.pick [0, 1, 2, 3, 4, 5, 6] (by decide)))⟩
  ·
   skip
   refine l_do F rfl rfl (op_pure F (v0 := .bool ((am : Int) == (0 : Int))) (v := .bool false) (by kernel_rfl) (eqlF ht4) fun a F => ?_)
   refine l_then ?_
   refine c_f F rfl ?_
   refine wp_skip ?_
   refine then_n ?_
   refine wp_seq ?_
   refine s_reg ?_
   refine l_pure 3 (fun L => (25, .pointer (some ⟨b, 0, none⟩)) :: (24, .pointer (some ⟨b, 0, none⟩)) :: (23, .pointer (some ⟨b, 0, none⟩)) :: L) F (by kernel_rfl) fun a F => ?_
   refine l_do F rfl rfl (op_load _ _ (some ⟨b, 0, none⟩) 0 (.slice Ah I.has.length ch) F rfl (by kernel_rfl) (by kernel_rfl) (cBox S 1 rfl (j := 0) rfl) (fun a F => ?_))
   refine l_pure 1 (fun L => (27, .int .i64 (qa : Nat)) :: L) F (by kernel_rfl) fun a F => ?_
   refine l_do F rfl rfl (op_index _ 23 _ _ Ah I.has.length ch qa 1 .i64 F rfl (by kernel_rfl) (by kernel_rfl) (by kernel_rfl) (by kernel_rfl) (get_lt hxh) (row_some S 2 rfl (m := qa) (get_lt hxh)) (fun a F => ?_))
   refine l_do F rfl rfl (op_load _ _ Ah (qa * 1) (.int .u64 xh) F rfl (by kernel_rfl) (by kernel_rfl) (cRec S 2 iC_len_u64 rfl 0 hxh rfl) (fun a F => ?_))
   refine l_pure 1 (fun L => (30, .int .u64 am) :: L) F (by kernel_rfl) fun a F => ?_
   by_cases ht5 : (xh : Int) < (am : Int)
   ·
    skip
    refine l_do F rfl rfl (op_pure F (v0 := .bool (decide ((xh : Int) < (am : Int)))) (v := .bool true) (by kernel_rfl) (lssT ht5) fun a F => ?_)
    refine l_then ?_
    refine c_t F rfl ?_
    refine s_reg ?_
    refine l_pure 1 (fun L => (8, .int .i64 12) :: L) F (by kernel_rfl) fun a F => ?_
    refine l_then ?_
    refine wp_ret ?_
    refine then_r (?_)
    exact fin F [.tmp 8] [.int .i64 12] rfl ⟨by kernel_rfl, trivial⟩ (.int .i64 12) rfl ⟨by rw [put_under (s := 1) hsd ht4 hxh (by omega)], by rw [put_under (s := 1) hsd ht4 hxh (by omega)]; exact (ref_shut hqs (by simp) (by simp) (by simp) (by simp) (S.pick [0, 1, 2, 3, 4, 5, 6] (by decide)))⟩
   ·
    skip
    refine l_do F rfl rfl (op_pure F (v0 := .bool (decide ((xh : Int) < (am : Int)))) (v := .bool false) (by kernel_rfl) (lssF ht5) fun a F => ?_)
    refine l_then ?_
    refine c_f F rfl ?_
    refine wp_skip ?_
    refine then_n ?_
    refine wp_seq ?_
    have hn6 : Option.isSome Ah = true := (row_some S 2 rfl (m := qa) (get_lt hxh))
    refine region_gx (fun D => fun (_ : Unit) => [rest w G, box b 74 [.slice Ah I.has.length ch, .slice Ae I.ends.length ce, .slice Af I.free.length cf, .slice Al qs.length cl], bif D 15 then rU Ah I.has.length ch (I.has.set qa (xh - am)) else rUl Ah ch I.has, rEl Ae ce I.ends, rFl Af cf I.free, rPl Al cl qs, bag (qs.flatMap legRows)]) (fun (_ : Unit) => [.pointer (some ⟨b, 0, none⟩), .pointer (some ⟨b, 0, none⟩), .pointer (some ⟨b, 0, none⟩), .slice Ah I.has.length ch, .int .i64 (qa : Nat), .pointer (some ⟨b, 0, none⟩), .pointer (some ⟨b, 0, none⟩), .pointer (some ⟨b, 0, none⟩), .slice Ah I.has.length ch, .int .i64 (qa : Nat), ptrA Ah (qa * 1), .int .u64 xh, .int .u64 am, .int .u64 (xh - am), ptrA Ah (qa * 1), undef]) [(3, [], [14, 15]), (8, [], [10, 11, 13, 14, 15]), (10, [8], [11, 13, 14, 15]), (11, [8, 10], [13, 14, 15]), (13, [8, 10, 11], [14, 15]), (14, [3, 8, 10, 11, 13], [15]), (15, [3, 8, 10, 11, 13, 14], [])] () rfl (by kernel_rfl) (by kernel_rfl) F S.drew ?_ ?_ ?_ ?_ ?_
    · rintro ⟨⟩; rfl
    · rintro ⟨⟩; kernel_rfl
    ·
     intro D D' x h
     cases x
     simp only [h 15 (by decide)]
    ·
     refine ⟨?_, ?_⟩
     ·
      refine ⟨_, rfl, rfl, by kernel_rfl, ?_⟩
      rintro D ⟨⟩ a z S F
      refine ⟨by kernel_rfl, ?_⟩
      exact op_load _ _ (some ⟨b, 0, none⟩) 0 (.slice Ah I.has.length ch) F rfl (by kernel_rfl) (by kernel_rfl) (cBox S 1 rfl (j := 0) rfl) (⟨(), rfl, (SameB.refl _ _ rfl), S⟩)
     refine ⟨?_, ?_⟩
     ·
      refine ⟨_, rfl, rfl, by kernel_rfl, ?_⟩
      rintro D ⟨⟩ a z S F
      refine ⟨by kernel_rfl, ?_⟩
      exact op_load _ _ (some ⟨b, 0, none⟩) 0 (.slice Ah I.has.length ch) F rfl (by kernel_rfl) (by kernel_rfl) (cBox S 1 rfl (j := 0) rfl) (⟨(), rfl, (SameB.refl _ _ rfl), S⟩)
     refine ⟨?_, ?_⟩
     ·
      refine ⟨_, rfl, rfl, by kernel_rfl, ?_⟩
      rintro D ⟨⟩ a z S F
      refine ⟨by kernel_rfl, ?_⟩
      exact op_index _ 23 _ _ Ah I.has.length ch qa 1 .i64 F rfl (by kernel_rfl) (by kernel_rfl) (by kernel_rfl) (by kernel_rfl) (get_lt hxh) hn6 (⟨(), rfl, (SameB.refl _ _ rfl), S⟩)
     refine ⟨?_, ?_⟩
     ·
      refine ⟨_, rfl, rfl, by kernel_rfl, ?_⟩
      rintro D ⟨⟩ a z S F
      refine ⟨by kernel_rfl, ?_⟩
      exact op_load _ _ Ah (qa * 1) (.int .u64 xh) F rfl (by kernel_rfl) (by kernel_rfl) (cRec S 2 iC_len_u64 rfl 0 hxh rfl) (⟨(), rfl, (SameB.refl _ _ rfl), S⟩)
     refine ⟨?_, ?_⟩
     ·
      refine ⟨_, rfl, rfl, by kernel_rfl, ?_⟩
      rintro D ⟨⟩ a z S F
      refine ⟨by kernel_rfl, ?_⟩
      exact op_pure F (v0 := .int .u64 (IntKind.wrap .u64 (xh - am))) (v := .int .u64 (xh - am)) (by kernel_rfl) (wr_u64 (by omega) (by omega)) ⟨(), rfl, (SameB.refl _ _ rfl), S⟩
     refine ⟨?_, ?_⟩
     ·
      refine ⟨_, rfl, rfl, by kernel_rfl, ?_⟩
      rintro D ⟨⟩ a z S F
      refine ⟨by kernel_rfl, ?_⟩
      exact op_index _ 23 _ _ Ah I.has.length ch qa 1 .i64 F rfl (by kernel_rfl) (by kernel_rfl) (by kernel_rfl) (by kernel_rfl) (get_lt hxh) hn6 (⟨(), rfl, (SameB.refl _ _ rfl), S⟩)
     refine ⟨?_, ?_⟩
     ·
      refine ⟨_, rfl, rfl, by kernel_rfl, ?_⟩
      rintro D ⟨⟩ a z S F
      refine ⟨by kernel_rfl, ?_⟩
      exact op_storeRec S 2 _ _ _ Ah qa 1 0 (.int .u64 (xh - am)) (xh - am) F iC_len_u64 hxh rfl rfl (by kernel_rfl) (by kernel_rfl) (by kernel_rfl) (by kernel_rfl) (by kernel_rfl) (by kernel_rfl) (by kernel_rfl) fun z S => ⟨(), rfl, (SameB.refl _ _ rfl), S⟩
     trivial
    ·
     rintro ⟨⟩ a z F S
     have F := F.sub (l := [(0, .pointer (some ⟨b, 0, none⟩)), (1, .int .i64 (nn : Nat)), (3, .int .u64 am), (9, .int .i64 1)]) ⟨by kernel_rfl, by kernel_rfl, by kernel_rfl, by kernel_rfl, trivial⟩
     have S : Sat w z [rest w G, box b 74 [.slice Ah I.has.length ch, .slice Ae I.ends.length ce, .slice Af I.free.length cf, .slice Al qs.length cl], rU Ah I.has.length ch (I.has.set qa (xh - am)), rEl Ae ce I.ends, rFl Af cf I.free, rPl Al cl qs, bag (qs.flatMap legRows)] := S
     refine then_n ?_
     refine wp_seq ?_
     refine region_gx (fun D => fun (_ : Unit) => [rest w G, box b 74 [.slice Ah I.has.length ch, .slice Ae I.ends.length ce, .slice Af I.free.length cf, .slice Al qs.length cl], rU Ah I.has.length ch (I.has.set qa (xh - am)), rEl Ae ce I.ends, bif D 19 then rF Af I.free.length cf (I.free.set nn ((xf.1, xf.2 + am) : Int × Int)) else rFl Af cf I.free, rPl Al cl qs, bag (qs.flatMap legRows)]) (fun (_ : Unit) => [.pointer (some ⟨b, 0, none⟩), .pointer (some ⟨b, 0, none⟩), .pointer (some ⟨b, 2, none⟩), .slice Af I.free.length cf, .int .i64 (nn : Nat), .int .i64 1, .pointer (some ⟨b, 0, none⟩), .pointer (some ⟨b, 0, none⟩), .pointer (some ⟨b, 2, none⟩), .slice Af I.free.length cf, .int .i64 (nn : Nat), .int .i64 1, ptrA Af (nn * 2), ptrA Af (nn * 2 + 1), .int .u64 xf.2, .int .u64 am, .int .u64 (xf.2 + am), ptrA Af (nn * 2), ptrA Af (nn * 2 + 1), undef]) [(3, [], [17, 18, 19]), (9, [], [12, 13, 14, 16, 18, 19]), (12, [9], [13, 14, 16, 18, 19]), (13, [9, 12], [14, 16, 18, 19]), (14, [9, 12, 13], [16, 18, 19]), (16, [9, 12, 13, 14], [18, 19]), (17, [3], [18, 19]), (18, [3, 9, 12, 13, 14, 16, 17], [19]), (19, [3, 9, 12, 13, 14, 16, 17, 18], [])] () rfl (by kernel_rfl) (by kernel_rfl) F S.drew ?_ ?_ ?_ ?_ ?_
     · rintro ⟨⟩; rfl
     · rintro ⟨⟩; kernel_rfl
     ·
      intro D D' x h
      cases x
      simp only [h 19 (by decide)]
     ·
      refine ⟨?_, ?_⟩
      ·
       refine ⟨_, rfl, rfl, by kernel_rfl, ?_⟩
       rintro D ⟨⟩ a z S F
       refine ⟨by kernel_rfl, ?_⟩
       exact op_load _ _ (some ⟨b, 0, none⟩) 2 (.slice Af I.free.length cf) F rfl (by kernel_rfl) (by kernel_rfl) (cBox S 1 rfl (j := 2) rfl) (⟨(), rfl, (SameB.refl _ _ rfl), S⟩)
      refine ⟨?_, ?_⟩
      ·
       refine ⟨_, rfl, rfl, by kernel_rfl, ?_⟩
       rintro D ⟨⟩ a z S F
       refine ⟨by kernel_rfl, ?_⟩
       exact op_load _ _ (some ⟨b, 0, none⟩) 2 (.slice Af I.free.length cf) F rfl (by kernel_rfl) (by kernel_rfl) (cBox S 1 rfl (j := 2) rfl) (⟨(), rfl, (SameB.refl _ _ rfl), S⟩)
      refine ⟨?_, ?_⟩
      ·
       refine ⟨_, rfl, rfl, by kernel_rfl, ?_⟩
       rintro D ⟨⟩ a z S F
       refine ⟨by kernel_rfl, ?_⟩
       exact op_index _ 31 _ _ Af I.free.length cf nn 2 .i64 F rfl (by kernel_rfl) (by kernel_rfl) (by kernel_rfl) (by kernel_rfl) (get_lt hxf) (row_some S 4 rfl (m := nn) (get_lt hxf)) (⟨(), rfl, (SameB.refl _ _ rfl), S⟩)
      refine ⟨?_, ?_⟩
      ·
       refine ⟨_, rfl, rfl, by kernel_rfl, ?_⟩
       rintro D ⟨⟩ a z S F
       refine ⟨by kernel_rfl, ?_⟩
       exact op_indexArr _ 23 _ _ Af (nn * 2) 2 1 1 .i64 F rfl (by kernel_rfl) (by kernel_rfl) (by kernel_rfl) (by kernel_rfl) (by decide) (row_some S 4 rfl (m := nn) (get_lt hxf)) (⟨(), rfl, (SameB.refl _ _ rfl), S⟩)
      refine ⟨?_, ?_⟩
      ·
       refine ⟨_, rfl, rfl, by kernel_rfl, ?_⟩
       rintro D ⟨⟩ a z S F
       refine ⟨by kernel_rfl, ?_⟩
       exact op_load _ _ Af (nn * 2 + 1) (.int .u64 xf.2) F rfl (by kernel_rfl) (by kernel_rfl) (cRec S 4 frC_len rfl 1 hxf rfl) (⟨(), rfl, (SameB.refl _ _ rfl), S⟩)
      refine ⟨?_, ?_⟩
      ·
       refine ⟨_, rfl, rfl, by kernel_rfl, ?_⟩
       rintro D ⟨⟩ a z S F
       refine ⟨by kernel_rfl, ?_⟩
       exact op_pure F (v0 := .int .u64 (IntKind.wrap .u64 (xf.2 + am))) (v := .int .u64 (xf.2 + am)) (by kernel_rfl) (wr_u64 (by omega) (by omega)) ⟨(), rfl, (SameB.refl _ _ rfl), S⟩
      refine ⟨?_, ?_⟩
      ·
       refine ⟨_, rfl, rfl, by kernel_rfl, ?_⟩
       rintro D ⟨⟩ a z S F
       refine ⟨by kernel_rfl, ?_⟩
       exact op_index _ 31 _ _ Af I.free.length cf nn 2 .i64 F rfl (by kernel_rfl) (by kernel_rfl) (by kernel_rfl) (by kernel_rfl) (get_lt hxf) (row_some S 4 rfl (m := nn) (get_lt hxf)) (⟨(), rfl, (SameB.refl _ _ rfl), S⟩)
      refine ⟨?_, ?_⟩
      ·
       refine ⟨_, rfl, rfl, by kernel_rfl, ?_⟩
       rintro D ⟨⟩ a z S F
       refine ⟨by kernel_rfl, ?_⟩
       exact op_indexArr _ 23 _ _ Af (nn * 2) 2 1 1 .i64 F rfl (by kernel_rfl) (by kernel_rfl) (by kernel_rfl) (by kernel_rfl) (by decide) (row_some S 4 rfl (m := nn) (get_lt hxf)) (⟨(), rfl, (SameB.refl _ _ rfl), S⟩)
      refine ⟨?_, ?_⟩
      ·
       refine ⟨_, rfl, rfl, by kernel_rfl, ?_⟩
       rintro D ⟨⟩ a z S F
       refine ⟨by kernel_rfl, ?_⟩
       exact op_storeRec S 4 _ _ _ Af nn 2 1 (.int .u64 (xf.2 + am)) ((xf.1, xf.2 + am) : Int × Int) F frC_len hxf rfl rfl (by kernel_rfl) (by kernel_rfl) (by kernel_rfl) (by kernel_rfl) (by kernel_rfl) (by kernel_rfl) (by kernel_rfl) fun z S => ⟨(), rfl, (SameB.refl _ _ rfl), S⟩
      trivial
     ·
      rintro ⟨⟩ a z F S
      have F := F.sub (l := []) trivial
      have S : Sat w z [rest w G, box b 74 [.slice Ah I.has.length ch, .slice Ae I.ends.length ce, .slice Af I.free.length cf, .slice Al qs.length cl], rU Ah I.has.length ch (I.has.set qa (xh - am)), rEl Ae ce I.ends, rF Af I.free.length cf (I.free.set nn ((xf.1, xf.2 + am) : Int × Int)), rPl Al cl qs, bag (qs.flatMap legRows)] := S
      refine then_n ?_
      refine s_reg ?_
      refine l_pure 1 (fun L => (8, .int .i64 0) :: L) F (by kernel_rfl) fun a F => ?_
      refine l_then ?_
      refine wp_ret ?_
      exact fin F [.tmp 8] [.int .i64 0] rfl ⟨by kernel_rfl, trivial⟩ (.int .i64 0) rfl ⟨by rw [put_ok (s := 1) hsd ht4 hxh (by omega) hxf], by rw [put_ok (s := 1) hsd ht4 hxh (by omega) hxf]; exact (ref_shut hqs (by simp) (by simp) (by simp) (by simp) (S.pick [0, 1, 2, 3, 4, 5, 6] (by decide)))⟩
 ·
  skip
  have hsm := ok.sums
  obtain ⟨hpl, hql, hpq9⟩ := ok.en _ (List.mem_of_getElem? he)
  dsimp only at hpl hql hpq9
  have hnn := (List.getElem?_eq_some_iff.1 he).1
  have hfl := ok.fl
  obtain ⟨xf, hxf⟩ : ∃ xf, I.free[nn]? = some xf := ⟨_, List.getElem?_eq_getElem (by omega)⟩
  have hx2 := sumF_one ok.fu hxf
  obtain ⟨G9, g9, hin9, hlt9, k9⟩ := S.frameB [1, 3] (by decide) rfl
  refine l_do F rfl rfl (op_fn F (by kernel_rfl) (rside24_at hsd _ G9 b Ah I.has.length ch Ae ce Af I.free.length cf Al qs.length cl g9) ?_)
  rintro e z9 ⟨rfl, g⟩
  have S : Sat w z9 [rest w G, box b 74 [.slice Ah I.has.length ch, .slice Ae I.ends.length ce, .slice Af I.free.length cf, .slice Al qs.length cl], rUl Ah ch I.has, rEl Ae ce I.ends, rFl Af cf I.free, rPl Al cl qs, bag (qs.flatMap legRows)] := k9 z9 [box b 74 [.slice Ah I.has.length ch, .slice Ae I.ends.length ce, .slice Af I.free.length cf, .slice Al qs.length cl], rEl Ae ce I.ends] rfl g
  clear g g9 k9 hin9 hlt9
  refine ⟨_, rfl, ?_⟩
  intro a F
  refine l_pure 5 (fun L => (10, .int .i64 1) :: (9, .int .i64 0) :: (17, .int .i64 1) :: (16, .int .i64 0) :: (11, .tuple #[.int .i64 0, .int .i64 1]) :: L) F (by kernel_rfl) fun a F => ?_
  refine l_then ?_
  refine wp_seq ?_
  refine s_reg ?_
  refine l_pure 2 (fun L => (19, .bool true) :: (18, .int .i64 1) :: L) F (by kernel_rfl) fun a F => ?_
  refine l_then ?_
  refine c_t F rfl ?_
  refine s_reg ?_
  refine l_pure 2 (fun L => (8, .int .i64 1) :: (20, .int .i64 1) :: L) F (by kernel_rfl) fun a F => ?_
  refine l_then ?_
  refine wp_ret ?_
  refine then_r (?_)
  exact fin F [.tmp 8] [.int .i64 1] rfl ⟨by kernel_rfl, trivial⟩ (.int .i64 1) rfl ⟨by rw [put_err (by rw [hsd]; decide), hsd], by rw [put_err (by rw [hsd]; decide)]; exact (ref_shut hqs (by simp) (by simp) (by simp) (by simp) (S.pick [0, 1, 2, 3, 4, 5, 6] (by decide)))⟩
set_option maxRecDepth 100000 in
set_option maxHeartbeats 4000000 in
theorem rspend24_any (w : World) (G : Nat → Prop) (b : Nat) (I : Idl) (ok : IOk I) (hS : Sat w w [refA b I, rest w G]) (cid who am : Int) (ham : U64 am) : Calls Try.prog 46 #[.pointer (some ⟨b, 0, none⟩), .int .i64 cid, .int .i64 who, .int .u64 am] w fun e w' => e = .returned (.tuple #[.int .i64 (spendP I cid who am).1, .int .i64 (spendP I cid who am).2]) ∧ Sat w w' [refA b (spendI I cid who am), rest w G] := by
 have ham2 := ham
 unfold U64 at ham2
 refine enter 55 Try.func46 rfl rfl rfl fun a F => ?_
 obtain ⟨Ah, ch, Ae, ce, Af, cf, Al, cl, qs, hqs, S⟩ := ref_open hS
 refine s_reg ?_
 refine l_pure 2 (fun L => (9, .int .i64 0) :: (8, .int .i64 0) :: L) F (by kernel_rfl) fun a F => ?_
 refine l_then ?_
 refine s_reg ?_
 refine l_pure 3 (fun L => (15, .int .i64 who) :: (14, .int .i64 cid) :: (13, .pointer (some ⟨b, 0, none⟩)) :: L) F (by kernel_rfl) fun a F => ?_
 rcases side_cases24 I.ends cid who with ⟨hsd, hbad⟩ | ⟨nn, pa, qa, rfl, rfl, he, hsd⟩ | ⟨nn, pa, qa, rfl, rfl, he, hpq, hsd⟩ | ⟨nn, pa, qa, rfl, he, hw1, hw2, hsd⟩
 ·
  skip
  have hnl := ok.fl
  obtain ⟨G9, g9, hin9, hlt9, k9⟩ := S.frameB [1, 3] (by decide) rfl
  refine l_do F rfl rfl (op_fn F (by kernel_rfl) (rside24_at hsd _ G9 b Ah I.has.length ch Ae ce Af I.free.length cf Al qs.length cl g9) ?_)
  rintro e z9 ⟨rfl, g⟩
  have S : Sat w z9 [rest w G, box b 74 [.slice Ah I.has.length ch, .slice Ae I.ends.length ce, .slice Af I.free.length cf, .slice Al qs.length cl], rUl Ah ch I.has, rEl Ae ce I.ends, rFl Af cf I.free, rPl Al cl qs, bag (qs.flatMap legRows)] := k9 z9 [box b 74 [.slice Ah I.has.length ch, .slice Ae I.ends.length ce, .slice Af I.free.length cf, .slice Al qs.length cl], rEl Ae ce I.ends] rfl g
  clear g g9 k9 hin9 hlt9
  refine ⟨_, rfl, ?_⟩
  intro a F
  refine l_pure 5 (fun L => (11, .int .i64 6) :: (10, .int .i64 0) :: (18, .int .i64 6) :: (17, .int .i64 0) :: (12, .tuple #[.int .i64 0, .int .i64 6]) :: L) F (by kernel_rfl) fun a F => ?_
  refine l_then ?_
  refine wp_seq ?_
  refine s_reg ?_
  refine l_pure 2 (fun L => (20, .bool true) :: (19, .int .i64 6) :: L) F (by kernel_rfl) fun a F => ?_
  refine l_then ?_
  refine c_t F rfl ?_
  refine s_reg ?_
  refine l_pure 3 (fun L => (9, .int .i64 6) :: (8, .int .i64 0) :: (21, .int .i64 6) :: L) F (by kernel_rfl) fun a F => ?_
  refine l_then ?_
  refine wp_ret ?_
  refine then_r (?_)
  exact fin F [.tmp 8, .tmp 9] [.int .i64 0, .int .i64 6] rfl ⟨by kernel_rfl, by kernel_rfl, trivial⟩ (.tuple #[.int .i64 0, .int .i64 6]) rfl ⟨by rw [spend_err (by rw [hsd]; decide), hsd], by rw [spendI_err (spend_err (by rw [hsd]; decide)) (by rw [hsd]; decide)]; exact (ref_shut hqs (by simp) (by simp) (by simp) (by simp) (S.pick [0, 1, 2, 3, 4, 5, 6] (by decide)))⟩
 ·
  skip
  have hsm := ok.sums
  obtain ⟨hpl, hql, hpq9⟩ := ok.en _ (List.mem_of_getElem? he)
  dsimp only at hpl hql hpq9
  have hnn := (List.getElem?_eq_some_iff.1 he).1
  have hfl := ok.fl
  obtain ⟨xf, hxf⟩ : ∃ xf, I.free[nn]? = some xf := ⟨_, List.getElem?_eq_getElem (by omega)⟩
  have hx2 := sumF_one ok.fu hxf
  obtain ⟨xh, hxh⟩ : ∃ xh, I.has[pa]? = some xh := ⟨_, List.getElem?_eq_getElem (by omega)⟩
  have hx1 := sumI_one I.has pa xh ok.hu hxh
  obtain ⟨G9, g9, hin9, hlt9, k9⟩ := S.frameB [1, 3] (by decide) rfl
  refine l_do F rfl rfl (op_fn F (by kernel_rfl) (rside24_at hsd _ G9 b Ah I.has.length ch Ae ce Af I.free.length cf Al qs.length cl g9) ?_)
  rintro e z9 ⟨rfl, g⟩
  have S : Sat w z9 [rest w G, box b 74 [.slice Ah I.has.length ch, .slice Ae I.ends.length ce, .slice Af I.free.length cf, .slice Al qs.length cl], rUl Ah ch I.has, rEl Ae ce I.ends, rFl Af cf I.free, rPl Al cl qs, bag (qs.flatMap legRows)] := k9 z9 [box b 74 [.slice Ah I.has.length ch, .slice Ae I.ends.length ce, .slice Af I.free.length cf, .slice Al qs.length cl], rEl Ae ce I.ends] rfl g
  clear g g9 k9 hin9 hlt9
  refine ⟨_, rfl, ?_⟩
  intro a F
  refine l_pure 5 (fun L => (11, .int .i64 0) :: (10, .int .i64 0) :: (18, .int .i64 0) :: (17, .int .i64 0) :: (12, .tuple #[.int .i64 0, .int .i64 0]) :: L) F (by kernel_rfl) fun a F => ?_
  refine l_then ?_
  refine wp_seq ?_
  refine s_reg ?_
  refine l_pure 2 (fun L => (20, .bool false) :: (19, .int .i64 0) :: L) F (by kernel_rfl) fun a F => ?_
  refine l_then ?_
  refine c_f F rfl ?_
  refine wp_skip ?_
  refine then_n ?_
  refine wp_seq ?_
  refine s_reg ?_
  refine l_pure 1 (fun L => (22, .int .u64 am) :: L) F (by kernel_rfl) fun a F => ?_
  by_cases ht1 : (am : Int) = (0 : Int)
  ·
   skip
   refine l_do F rfl rfl (op_pure F (v0 := .bool ((am : Int) == (0 : Int))) (v := .bool true) (by kernel_rfl) (eqlT ht1) fun a F => ?_)
   refine l_then ?_
   refine c_t F rfl ?_
   refine s_reg ?_
   refine l_pure 2 (fun L => (9, .int .i64 1) :: (8, .int .i64 0) :: L) F (by kernel_rfl) fun a F => ?_
   refine l_then ?_
   refine wp_ret ?_
   refine then_r (?_)
   exact fin F [.tmp 8, .tmp 9] [.int .i64 0, .int .i64 1] rfl ⟨by kernel_rfl, by kernel_rfl, trivial⟩ (.tuple #[.int .i64 0, .int .i64 1]) rfl ⟨by rw [spend_zero (by rw [hsd]) ht1], by rw [spendI_err (spend_zero (by rw [hsd]) ht1) (by decide)]; exact (ref_shut hqs (by simp) (by simp) (by simp) (by simp) (S.pick [0, 1, 2, 3, 4, 5, 6] (by decide)))⟩
  ·
   skip
   refine l_do F rfl rfl (op_pure F (v0 := .bool ((am : Int) == (0 : Int))) (v := .bool false) (by kernel_rfl) (eqlF ht1) fun a F => ?_)
   refine l_then ?_
   refine c_f F rfl ?_
   refine wp_skip ?_
   refine then_n ?_
   refine wp_seq ?_
   refine s_reg ?_
   refine l_pure 3 (fun L => (26, .pointer (some ⟨b, 2, none⟩)) :: (25, .pointer (some ⟨b, 0, none⟩)) :: (24, .pointer (some ⟨b, 0, none⟩)) :: L) F (by kernel_rfl) fun a F => ?_
   refine l_do F rfl rfl (op_load _ _ (some ⟨b, 0, none⟩) 2 (.slice Af I.free.length cf) F rfl (by kernel_rfl) (by kernel_rfl) (cBox S 1 rfl (j := 2) rfl) (fun a F => ?_))
   refine l_pure 2 (fun L => (29, .int .i64 0) :: (28, .int .i64 (nn : Nat)) :: L) F (by kernel_rfl) fun a F => ?_
   refine l_do F rfl rfl (op_index _ 31 _ _ Af I.free.length cf nn 2 .i64 F rfl (by kernel_rfl) (by kernel_rfl) (by kernel_rfl) (by kernel_rfl) (get_lt hxf) (row_some S 4 rfl (m := nn) (get_lt hxf)) (fun a F => ?_))
   refine l_do F rfl rfl (op_indexArr _ 23 _ _ Af (nn * 2) 2 0 1 .i64 F rfl (by kernel_rfl) (by kernel_rfl) (by kernel_rfl) (by kernel_rfl) (by decide) (row_some S 4 rfl (m := nn) (get_lt hxf)) (fun a F => ?_))
   refine l_do F rfl rfl (op_load _ _ Af (nn * 2) (.int .u64 xf.1) F rfl (by kernel_rfl) (by kernel_rfl) (cRec S 4 frC_len rfl 0 hxf rfl) (fun a F => ?_))
   refine l_pure 1 (fun L => (33, .int .u64 am) :: L) F (by kernel_rfl) fun a F => ?_
   by_cases ht2 : (xf.1 : Int) < (am : Int)
   ·
    skip
    refine l_do F rfl rfl (op_pure F (v0 := .bool (decide ((xf.1 : Int) < (am : Int)))) (v := .bool true) (by kernel_rfl) (lssT ht2) fun a F => ?_)
    refine l_then ?_
    refine c_t F rfl ?_
    refine s_reg ?_
    refine l_pure 2 (fun L => (9, .int .i64 28) :: (8, .int .i64 0) :: L) F (by kernel_rfl) fun a F => ?_
    refine l_then ?_
    refine wp_ret ?_
    refine then_r (?_)
    exact fin F [.tmp 8, .tmp 9] [.int .i64 0, .int .i64 28] rfl ⟨by kernel_rfl, by kernel_rfl, trivial⟩ (.tuple #[.int .i64 0, .int .i64 28]) rfl ⟨by rw [spend_room (s := 0) hsd ht1 hxf (show frN xf 0 < am from ht2)], by rw [spendI_err (spend_room (s := 0) hsd ht1 hxf (show frN xf 0 < am from ht2)) (by decide)]; exact (ref_shut hqs (by simp) (by simp) (by simp) (by simp) (S.pick [0, 1, 2, 3, 4, 5, 6] (by decide)))⟩
   ·
    skip
    refine l_do F rfl rfl (op_pure F (v0 := .bool (decide ((xf.1 : Int) < (am : Int)))) (v := .bool false) (by kernel_rfl) (lssF ht2) fun a F => ?_)
    refine l_then ?_
    refine c_f F rfl ?_
    refine wp_skip ?_
    refine then_n ?_
    refine wp_seq ?_
    have hn3 : Option.isSome Af = true := (row_some S 4 rfl (m := nn) (get_lt hxf))
    refine region_gx (fun D => fun (_ : Unit) => [rest w G, box b 74 [.slice Ah I.has.length ch, .slice Ae I.ends.length ce, .slice Af I.free.length cf, .slice Al qs.length cl], rUl Ah ch I.has, rEl Ae ce I.ends, bif D 19 then rF Af I.free.length cf (I.free.set nn ((xf.1 - am, xf.2) : Int × Int)) else rFl Af cf I.free, rPl Al cl qs, bag (qs.flatMap legRows)]) (fun (_ : Unit) => [.pointer (some ⟨b, 0, none⟩), .pointer (some ⟨b, 0, none⟩), .pointer (some ⟨b, 2, none⟩), .slice Af I.free.length cf, .int .i64 (nn : Nat), .int .i64 0, .pointer (some ⟨b, 0, none⟩), .pointer (some ⟨b, 0, none⟩), .pointer (some ⟨b, 2, none⟩), .slice Af I.free.length cf, .int .i64 (nn : Nat), .int .i64 0, ptrA Af (nn * 2), ptrA Af (nn * 2), .int .u64 xf.1, .int .u64 am, .int .u64 (xf.1 - am), ptrA Af (nn * 2), ptrA Af (nn * 2), undef]) [(3, [], [17, 18, 19]), (9, [], [12, 13, 14, 16, 18, 19]), (12, [9], [13, 14, 16, 18, 19]), (13, [9, 12], [14, 16, 18, 19]), (14, [9, 12, 13], [16, 18, 19]), (16, [9, 12, 13, 14], [18, 19]), (17, [3], [18, 19]), (18, [3, 9, 12, 13, 14, 16, 17], [19]), (19, [3, 9, 12, 13, 14, 16, 17, 18], [])] () rfl (by kernel_rfl) (by kernel_rfl) F S.drew ?_ ?_ ?_ ?_ ?_
    · rintro ⟨⟩; rfl
    · rintro ⟨⟩; kernel_rfl
    ·
     intro D D' x h
     cases x
     simp only [h 19 (by decide)]
    ·
     refine ⟨?_, ?_⟩
     ·
      refine ⟨_, rfl, rfl, by kernel_rfl, ?_⟩
      rintro D ⟨⟩ a z S F
      refine ⟨by kernel_rfl, ?_⟩
      exact op_load _ _ (some ⟨b, 0, none⟩) 2 (.slice Af I.free.length cf) F rfl (by kernel_rfl) (by kernel_rfl) (cBox S 1 rfl (j := 2) rfl) (⟨(), rfl, (SameB.refl _ _ rfl), S⟩)
     refine ⟨?_, ?_⟩
     ·
      refine ⟨_, rfl, rfl, by kernel_rfl, ?_⟩
      rintro D ⟨⟩ a z S F
      refine ⟨by kernel_rfl, ?_⟩
      exact op_load _ _ (some ⟨b, 0, none⟩) 2 (.slice Af I.free.length cf) F rfl (by kernel_rfl) (by kernel_rfl) (cBox S 1 rfl (j := 2) rfl) (⟨(), rfl, (SameB.refl _ _ rfl), S⟩)
     refine ⟨?_, ?_⟩
     ·
      refine ⟨_, rfl, rfl, by kernel_rfl, ?_⟩
      rintro D ⟨⟩ a z S F
      refine ⟨by kernel_rfl, ?_⟩
      exact op_index _ 31 _ _ Af I.free.length cf nn 2 .i64 F rfl (by kernel_rfl) (by kernel_rfl) (by kernel_rfl) (by kernel_rfl) (get_lt hxf) hn3 (⟨(), rfl, (SameB.refl _ _ rfl), S⟩)
     refine ⟨?_, ?_⟩
     ·
      refine ⟨_, rfl, rfl, by kernel_rfl, ?_⟩
      rintro D ⟨⟩ a z S F
      refine ⟨by kernel_rfl, ?_⟩
      exact op_indexArr _ 23 _ _ Af (nn * 2) 2 0 1 .i64 F rfl (by kernel_rfl) (by kernel_rfl) (by kernel_rfl) (by kernel_rfl) (by decide) hn3 (⟨(), rfl, (SameB.refl _ _ rfl), S⟩)
     refine ⟨?_, ?_⟩
     ·
      refine ⟨_, rfl, rfl, by kernel_rfl, ?_⟩
      rintro D ⟨⟩ a z S F
      refine ⟨by kernel_rfl, ?_⟩
      exact op_load _ _ Af (nn * 2) (.int .u64 xf.1) F rfl (by kernel_rfl) (by kernel_rfl) (cRec S 4 frC_len rfl 0 hxf rfl) (⟨(), rfl, (SameB.refl _ _ rfl), S⟩)
     refine ⟨?_, ?_⟩
     ·
      refine ⟨_, rfl, rfl, by kernel_rfl, ?_⟩
      rintro D ⟨⟩ a z S F
      refine ⟨by kernel_rfl, ?_⟩
      exact op_pure F (v0 := .int .u64 (IntKind.wrap .u64 (xf.1 - am))) (v := .int .u64 (xf.1 - am)) (by kernel_rfl) (wr_u64 (by omega) (by omega)) ⟨(), rfl, (SameB.refl _ _ rfl), S⟩
     refine ⟨?_, ?_⟩
     ·
      refine ⟨_, rfl, rfl, by kernel_rfl, ?_⟩
      rintro D ⟨⟩ a z S F
      refine ⟨by kernel_rfl, ?_⟩
      exact op_index _ 31 _ _ Af I.free.length cf nn 2 .i64 F rfl (by kernel_rfl) (by kernel_rfl) (by kernel_rfl) (by kernel_rfl) (get_lt hxf) hn3 (⟨(), rfl, (SameB.refl _ _ rfl), S⟩)
     refine ⟨?_, ?_⟩
     ·
      refine ⟨_, rfl, rfl, by kernel_rfl, ?_⟩
      rintro D ⟨⟩ a z S F
      refine ⟨by kernel_rfl, ?_⟩
      exact op_indexArr _ 23 _ _ Af (nn * 2) 2 0 1 .i64 F rfl (by kernel_rfl) (by kernel_rfl) (by kernel_rfl) (by kernel_rfl) (by decide) hn3 (⟨(), rfl, (SameB.refl _ _ rfl), S⟩)
     refine ⟨?_, ?_⟩
     ·
      refine ⟨_, rfl, rfl, by kernel_rfl, ?_⟩
      rintro D ⟨⟩ a z S F
      refine ⟨by kernel_rfl, ?_⟩
      exact op_storeRec S 4 _ _ _ Af nn 2 0 (.int .u64 (xf.1 - am)) ((xf.1 - am, xf.2) : Int × Int) F frC_len hxf rfl rfl (by kernel_rfl) (by kernel_rfl) (by kernel_rfl) (by kernel_rfl) (by kernel_rfl) (by kernel_rfl) (by kernel_rfl) fun z S => ⟨(), rfl, (SameB.refl _ _ rfl), S⟩
     trivial
    ·
     rintro ⟨⟩ a z F S
     have F := F.sub (l := [(10, .int .i64 0)]) ⟨by kernel_rfl, trivial⟩
     have S : Sat w z [rest w G, box b 74 [.slice Ah I.has.length ch, .slice Ae I.ends.length ce, .slice Af I.free.length cf, .slice Al qs.length cl], rUl Ah ch I.has, rEl Ae ce I.ends, rF Af I.free.length cf (I.free.set nn ((xf.1 - am, xf.2) : Int × Int)), rPl Al cl qs, bag (qs.flatMap legRows)] := S
     refine then_n ?_
     refine s_reg ?_
     refine l_pure 3 (fun L => (9, .int .i64 0) :: (8, .int .i64 0) :: (54, .int .i64 0) :: L) F (by kernel_rfl) fun a F => ?_
     refine l_then ?_
     refine wp_ret ?_
     exact fin F [.tmp 8, .tmp 9] [.int .i64 0, .int .i64 0] rfl ⟨by kernel_rfl, by kernel_rfl, trivial⟩ (.tuple #[.int .i64 0, .int .i64 0]) rfl ⟨by rw [spend_is (s := 0) hsd ht1 hxf (show ¬ frN xf 0 < am from ht2)]; rfl, by rw [spendI_ok (spend_is (s := 0) hsd ht1 hxf (show ¬ frN xf 0 < am from ht2)) hxf]; exact (ref_shut hqs (by simp) (by simp) (by simp) (by simp) (S.pick [0, 1, 2, 3, 4, 5, 6] (by decide)))⟩
 ·
  skip
  have hsm := ok.sums
  obtain ⟨hpl, hql, hpq9⟩ := ok.en _ (List.mem_of_getElem? he)
  dsimp only at hpl hql hpq9
  have hnn := (List.getElem?_eq_some_iff.1 he).1
  have hfl := ok.fl
  obtain ⟨xf, hxf⟩ : ∃ xf, I.free[nn]? = some xf := ⟨_, List.getElem?_eq_getElem (by omega)⟩
  have hx2 := sumF_one ok.fu hxf
  obtain ⟨xh, hxh⟩ : ∃ xh, I.has[qa]? = some xh := ⟨_, List.getElem?_eq_getElem (by omega)⟩
  have hx1 := sumI_one I.has qa xh ok.hu hxh
  obtain ⟨G9, g9, hin9, hlt9, k9⟩ := S.frameB [1, 3] (by decide) rfl
  refine l_do F rfl rfl (op_fn F (by kernel_rfl) (rside24_at hsd _ G9 b Ah I.has.length ch Ae ce Af I.free.length cf Al qs.length cl g9) ?_)
  rintro e z9 ⟨rfl, g⟩
  have S : Sat w z9 [rest w G, box b 74 [.slice Ah I.has.length ch, .slice Ae I.ends.length ce, .slice Af I.free.length cf, .slice Al qs.length cl], rUl Ah ch I.has, rEl Ae ce I.ends, rFl Af cf I.free, rPl Al cl qs, bag (qs.flatMap legRows)] := k9 z9 [box b 74 [.slice Ah I.has.length ch, .slice Ae I.ends.length ce, .slice Af I.free.length cf, .slice Al qs.length cl], rEl Ae ce I.ends] rfl g
  clear g g9 k9 hin9 hlt9
  refine ⟨_, rfl, ?_⟩
  intro a F
  refine l_pure 5 (fun L => (11, .int .i64 0) :: (10, .int .i64 1) :: (18, .int .i64 0) :: (17, .int .i64 1) :: (12, .tuple #[.int .i64 1, .int .i64 0]) :: L) F (by kernel_rfl) fun a F => ?_
  refine l_then ?_
  refine wp_seq ?_
  refine s_reg ?_
  refine l_pure 2 (fun L => (20, .bool false) :: (19, .int .i64 0) :: L) F (by kernel_rfl) fun a F => ?_
  refine l_then ?_
  refine c_f F rfl ?_
  refine wp_skip ?_
  refine then_n ?_
  refine wp_seq ?_
  refine s_reg ?_
  refine l_pure 1 (fun L => (22, .int .u64 am) :: L) F (by kernel_rfl) fun a F => ?_
  by_cases ht4 : (am : Int) = (0 : Int)
  ·
   skip
   refine l_do F rfl rfl (op_pure F (v0 := .bool ((am : Int) == (0 : Int))) (v := .bool true) (by kernel_rfl) (eqlT ht4) fun a F => ?_)
   refine l_then ?_
   refine c_t F rfl ?_
   refine s_reg ?_
   refine l_pure 2 (fun L => (9, .int .i64 1) :: (8, .int .i64 0) :: L) F (by kernel_rfl) fun a F => ?_
   refine l_then ?_
   refine wp_ret ?_
   refine then_r (?_)
   exact fin F [.tmp 8, .tmp 9] [.int .i64 0, .int .i64 1] rfl ⟨by kernel_rfl, by kernel_rfl, trivial⟩ (.tuple #[.int .i64 0, .int .i64 1]) rfl ⟨by rw [spend_zero (by rw [hsd]) ht4], by rw [spendI_err (spend_zero (by rw [hsd]) ht4) (by decide)]; exact (ref_shut hqs (by simp) (by simp) (by simp) (by simp) (S.pick [0, 1, 2, 3, 4, 5, 6] (by decide)))⟩
  ·
   skip
   refine l_do F rfl rfl (op_pure F (v0 := .bool ((am : Int) == (0 : Int))) (v := .bool false) (by kernel_rfl) (eqlF ht4) fun a F => ?_)
   refine l_then ?_
   refine c_f F rfl ?_
   refine wp_skip ?_
   refine then_n ?_
   refine wp_seq ?_
   refine s_reg ?_
   refine l_pure 3 (fun L => (26, .pointer (some ⟨b, 2, none⟩)) :: (25, .pointer (some ⟨b, 0, none⟩)) :: (24, .pointer (some ⟨b, 0, none⟩)) :: L) F (by kernel_rfl) fun a F => ?_
   refine l_do F rfl rfl (op_load _ _ (some ⟨b, 0, none⟩) 2 (.slice Af I.free.length cf) F rfl (by kernel_rfl) (by kernel_rfl) (cBox S 1 rfl (j := 2) rfl) (fun a F => ?_))
   refine l_pure 2 (fun L => (29, .int .i64 1) :: (28, .int .i64 (nn : Nat)) :: L) F (by kernel_rfl) fun a F => ?_
   refine l_do F rfl rfl (op_index _ 31 _ _ Af I.free.length cf nn 2 .i64 F rfl (by kernel_rfl) (by kernel_rfl) (by kernel_rfl) (by kernel_rfl) (get_lt hxf) (row_some S 4 rfl (m := nn) (get_lt hxf)) (fun a F => ?_))
   refine l_do F rfl rfl (op_indexArr _ 23 _ _ Af (nn * 2) 2 1 1 .i64 F rfl (by kernel_rfl) (by kernel_rfl) (by kernel_rfl) (by kernel_rfl) (by decide) (row_some S 4 rfl (m := nn) (get_lt hxf)) (fun a F => ?_))
   refine l_do F rfl rfl (op_load _ _ Af (nn * 2 + 1) (.int .u64 xf.2) F rfl (by kernel_rfl) (by kernel_rfl) (cRec S 4 frC_len rfl 1 hxf rfl) (fun a F => ?_))
   refine l_pure 1 (fun L => (33, .int .u64 am) :: L) F (by kernel_rfl) fun a F => ?_
   by_cases ht5 : (xf.2 : Int) < (am : Int)
   ·
    skip
    refine l_do F rfl rfl (op_pure F (v0 := .bool (decide ((xf.2 : Int) < (am : Int)))) (v := .bool true) (by kernel_rfl) (lssT ht5) fun a F => ?_)
    refine l_then ?_
    refine c_t F rfl ?_
    refine s_reg ?_
    refine l_pure 2 (fun L => (9, .int .i64 28) :: (8, .int .i64 0) :: L) F (by kernel_rfl) fun a F => ?_
    refine l_then ?_
    refine wp_ret ?_
    refine then_r (?_)
    exact fin F [.tmp 8, .tmp 9] [.int .i64 0, .int .i64 28] rfl ⟨by kernel_rfl, by kernel_rfl, trivial⟩ (.tuple #[.int .i64 0, .int .i64 28]) rfl ⟨by rw [spend_room (s := 1) hsd ht4 hxf (show frN xf 1 < am from ht5)], by rw [spendI_err (spend_room (s := 1) hsd ht4 hxf (show frN xf 1 < am from ht5)) (by decide)]; exact (ref_shut hqs (by simp) (by simp) (by simp) (by simp) (S.pick [0, 1, 2, 3, 4, 5, 6] (by decide)))⟩
   ·
    skip
    refine l_do F rfl rfl (op_pure F (v0 := .bool (decide ((xf.2 : Int) < (am : Int)))) (v := .bool false) (by kernel_rfl) (lssF ht5) fun a F => ?_)
    refine l_then ?_
    refine c_f F rfl ?_
    refine wp_skip ?_
    refine then_n ?_
    refine wp_seq ?_
    have hn6 : Option.isSome Af = true := (row_some S 4 rfl (m := nn) (get_lt hxf))
    refine region_gx (fun D => fun (_ : Unit) => [rest w G, box b 74 [.slice Ah I.has.length ch, .slice Ae I.ends.length ce, .slice Af I.free.length cf, .slice Al qs.length cl], rUl Ah ch I.has, rEl Ae ce I.ends, bif D 19 then rF Af I.free.length cf (I.free.set nn ((xf.1, xf.2 - am) : Int × Int)) else rFl Af cf I.free, rPl Al cl qs, bag (qs.flatMap legRows)]) (fun (_ : Unit) => [.pointer (some ⟨b, 0, none⟩), .pointer (some ⟨b, 0, none⟩), .pointer (some ⟨b, 2, none⟩), .slice Af I.free.length cf, .int .i64 (nn : Nat), .int .i64 1, .pointer (some ⟨b, 0, none⟩), .pointer (some ⟨b, 0, none⟩), .pointer (some ⟨b, 2, none⟩), .slice Af I.free.length cf, .int .i64 (nn : Nat), .int .i64 1, ptrA Af (nn * 2), ptrA Af (nn * 2 + 1), .int .u64 xf.2, .int .u64 am, .int .u64 (xf.2 - am), ptrA Af (nn * 2), ptrA Af (nn * 2 + 1), undef]) [(3, [], [17, 18, 19]), (9, [], [12, 13, 14, 16, 18, 19]), (12, [9], [13, 14, 16, 18, 19]), (13, [9, 12], [14, 16, 18, 19]), (14, [9, 12, 13], [16, 18, 19]), (16, [9, 12, 13, 14], [18, 19]), (17, [3], [18, 19]), (18, [3, 9, 12, 13, 14, 16, 17], [19]), (19, [3, 9, 12, 13, 14, 16, 17, 18], [])] () rfl (by kernel_rfl) (by kernel_rfl) F S.drew ?_ ?_ ?_ ?_ ?_
    · rintro ⟨⟩; rfl
    · rintro ⟨⟩; kernel_rfl
    ·
     intro D D' x h
     cases x
     simp only [h 19 (by decide)]
    ·
     refine ⟨?_, ?_⟩
     ·
      refine ⟨_, rfl, rfl, by kernel_rfl, ?_⟩
      rintro D ⟨⟩ a z S F
      refine ⟨by kernel_rfl, ?_⟩
      exact op_load _ _ (some ⟨b, 0, none⟩) 2 (.slice Af I.free.length cf) F rfl (by kernel_rfl) (by kernel_rfl) (cBox S 1 rfl (j := 2) rfl) (⟨(), rfl, (SameB.refl _ _ rfl), S⟩)
     refine ⟨?_, ?_⟩
     ·
      refine ⟨_, rfl, rfl, by kernel_rfl, ?_⟩
      rintro D ⟨⟩ a z S F
      refine ⟨by kernel_rfl, ?_⟩
      exact op_load _ _ (some ⟨b, 0, none⟩) 2 (.slice Af I.free.length cf) F rfl (by kernel_rfl) (by kernel_rfl) (cBox S 1 rfl (j := 2) rfl) (⟨(), rfl, (SameB.refl _ _ rfl), S⟩)
     refine ⟨?_, ?_⟩
     ·
      refine ⟨_, rfl, rfl, by kernel_rfl, ?_⟩
      rintro D ⟨⟩ a z S F
      refine ⟨by kernel_rfl, ?_⟩
      exact op_index _ 31 _ _ Af I.free.length cf nn 2 .i64 F rfl (by kernel_rfl) (by kernel_rfl) (by kernel_rfl) (by kernel_rfl) (get_lt hxf) hn6 (⟨(), rfl, (SameB.refl _ _ rfl), S⟩)
     refine ⟨?_, ?_⟩
     ·
      refine ⟨_, rfl, rfl, by kernel_rfl, ?_⟩
      rintro D ⟨⟩ a z S F
      refine ⟨by kernel_rfl, ?_⟩
      exact op_indexArr _ 23 _ _ Af (nn * 2) 2 1 1 .i64 F rfl (by kernel_rfl) (by kernel_rfl) (by kernel_rfl) (by kernel_rfl) (by decide) hn6 (⟨(), rfl, (SameB.refl _ _ rfl), S⟩)
     refine ⟨?_, ?_⟩
     ·
      refine ⟨_, rfl, rfl, by kernel_rfl, ?_⟩
      rintro D ⟨⟩ a z S F
      refine ⟨by kernel_rfl, ?_⟩
      exact op_load _ _ Af (nn * 2 + 1) (.int .u64 xf.2) F rfl (by kernel_rfl) (by kernel_rfl) (cRec S 4 frC_len rfl 1 hxf rfl) (⟨(), rfl, (SameB.refl _ _ rfl), S⟩)
     refine ⟨?_, ?_⟩
     ·
      refine ⟨_, rfl, rfl, by kernel_rfl, ?_⟩
      rintro D ⟨⟩ a z S F
      refine ⟨by kernel_rfl, ?_⟩
      exact op_pure F (v0 := .int .u64 (IntKind.wrap .u64 (xf.2 - am))) (v := .int .u64 (xf.2 - am)) (by kernel_rfl) (wr_u64 (by omega) (by omega)) ⟨(), rfl, (SameB.refl _ _ rfl), S⟩
     refine ⟨?_, ?_⟩
     ·
      refine ⟨_, rfl, rfl, by kernel_rfl, ?_⟩
      rintro D ⟨⟩ a z S F
      refine ⟨by kernel_rfl, ?_⟩
      exact op_index _ 31 _ _ Af I.free.length cf nn 2 .i64 F rfl (by kernel_rfl) (by kernel_rfl) (by kernel_rfl) (by kernel_rfl) (get_lt hxf) hn6 (⟨(), rfl, (SameB.refl _ _ rfl), S⟩)
     refine ⟨?_, ?_⟩
     ·
      refine ⟨_, rfl, rfl, by kernel_rfl, ?_⟩
      rintro D ⟨⟩ a z S F
      refine ⟨by kernel_rfl, ?_⟩
      exact op_indexArr _ 23 _ _ Af (nn * 2) 2 1 1 .i64 F rfl (by kernel_rfl) (by kernel_rfl) (by kernel_rfl) (by kernel_rfl) (by decide) hn6 (⟨(), rfl, (SameB.refl _ _ rfl), S⟩)
     refine ⟨?_, ?_⟩
     ·
      refine ⟨_, rfl, rfl, by kernel_rfl, ?_⟩
      rintro D ⟨⟩ a z S F
      refine ⟨by kernel_rfl, ?_⟩
      exact op_storeRec S 4 _ _ _ Af nn 2 1 (.int .u64 (xf.2 - am)) ((xf.1, xf.2 - am) : Int × Int) F frC_len hxf rfl rfl (by kernel_rfl) (by kernel_rfl) (by kernel_rfl) (by kernel_rfl) (by kernel_rfl) (by kernel_rfl) (by kernel_rfl) fun z S => ⟨(), rfl, (SameB.refl _ _ rfl), S⟩
     trivial
    ·
     rintro ⟨⟩ a z F S
     have F := F.sub (l := [(10, .int .i64 1)]) ⟨by kernel_rfl, trivial⟩
     have S : Sat w z [rest w G, box b 74 [.slice Ah I.has.length ch, .slice Ae I.ends.length ce, .slice Af I.free.length cf, .slice Al qs.length cl], rUl Ah ch I.has, rEl Ae ce I.ends, rF Af I.free.length cf (I.free.set nn ((xf.1, xf.2 - am) : Int × Int)), rPl Al cl qs, bag (qs.flatMap legRows)] := S
     refine then_n ?_
     refine s_reg ?_
     refine l_pure 3 (fun L => (9, .int .i64 0) :: (8, .int .i64 1) :: (54, .int .i64 1) :: L) F (by kernel_rfl) fun a F => ?_
     refine l_then ?_
     refine wp_ret ?_
     exact fin F [.tmp 8, .tmp 9] [.int .i64 1, .int .i64 0] rfl ⟨by kernel_rfl, by kernel_rfl, trivial⟩ (.tuple #[.int .i64 1, .int .i64 0]) rfl ⟨by rw [spend_is (s := 1) hsd ht4 hxf (show ¬ frN xf 1 < am from ht5)]; rfl, by rw [spendI_ok (spend_is (s := 1) hsd ht4 hxf (show ¬ frN xf 1 < am from ht5)) hxf]; exact (ref_shut hqs (by simp) (by simp) (by simp) (by simp) (S.pick [0, 1, 2, 3, 4, 5, 6] (by decide)))⟩
 ·
  skip
  have hsm := ok.sums
  obtain ⟨hpl, hql, hpq9⟩ := ok.en _ (List.mem_of_getElem? he)
  dsimp only at hpl hql hpq9
  have hnn := (List.getElem?_eq_some_iff.1 he).1
  have hfl := ok.fl
  obtain ⟨xf, hxf⟩ : ∃ xf, I.free[nn]? = some xf := ⟨_, List.getElem?_eq_getElem (by omega)⟩
  have hx2 := sumF_one ok.fu hxf
  obtain ⟨G9, g9, hin9, hlt9, k9⟩ := S.frameB [1, 3] (by decide) rfl
  refine l_do F rfl rfl (op_fn F (by kernel_rfl) (rside24_at hsd _ G9 b Ah I.has.length ch Ae ce Af I.free.length cf Al qs.length cl g9) ?_)
  rintro e z9 ⟨rfl, g⟩
  have S : Sat w z9 [rest w G, box b 74 [.slice Ah I.has.length ch, .slice Ae I.ends.length ce, .slice Af I.free.length cf, .slice Al qs.length cl], rUl Ah ch I.has, rEl Ae ce I.ends, rFl Af cf I.free, rPl Al cl qs, bag (qs.flatMap legRows)] := k9 z9 [box b 74 [.slice Ah I.has.length ch, .slice Ae I.ends.length ce, .slice Af I.free.length cf, .slice Al qs.length cl], rEl Ae ce I.ends] rfl g
  clear g g9 k9 hin9 hlt9
  refine ⟨_, rfl, ?_⟩
  intro a F
  refine l_pure 5 (fun L => (11, .int .i64 1) :: (10, .int .i64 0) :: (18, .int .i64 1) :: (17, .int .i64 0) :: (12, .tuple #[.int .i64 0, .int .i64 1]) :: L) F (by kernel_rfl) fun a F => ?_
  refine l_then ?_
  refine wp_seq ?_
  refine s_reg ?_
  refine l_pure 2 (fun L => (20, .bool true) :: (19, .int .i64 1) :: L) F (by kernel_rfl) fun a F => ?_
  refine l_then ?_
  refine c_t F rfl ?_
  refine s_reg ?_
  refine l_pure 3 (fun L => (9, .int .i64 1) :: (8, .int .i64 0) :: (21, .int .i64 1) :: L) F (by kernel_rfl) fun a F => ?_
  refine l_then ?_
  refine wp_ret ?_
  refine then_r (?_)
  exact fin F [.tmp 8, .tmp 9] [.int .i64 0, .int .i64 1] rfl ⟨by kernel_rfl, by kernel_rfl, trivial⟩ (.tuple #[.int .i64 0, .int .i64 1]) rfl ⟨by rw [spend_err (by rw [hsd]; decide), hsd], by rw [spendI_err (spend_err (by rw [hsd]; decide)) (by rw [hsd]; decide)]; exact (ref_shut hqs (by simp) (by simp) (by simp) (by simp) (S.pick [0, 1, 2, 3, 4, 5, 6] (by decide)))⟩
theorem rspend24_at {I J : Idl} {cid who am v1 v2 : Int} (h1 : spendP I cid who am = (v1, v2)) (h2 : spendI I cid who am = J) (w : World) (G : Nat → Prop) (b : Nat) (ok : IOk I) (hS : Sat w w [refA b I, rest w G]) (ham : U64 am) : Calls Try.prog 46 #[.pointer (some ⟨b, 0, none⟩), .int .i64 cid, .int .i64 who, .int .u64 am] w fun e w' => e = .returned (.tuple #[.int .i64 v1, .int .i64 v2]) ∧ Sat w w' [refA b J, rest w G] := by
  have h := rspend24_any w G b I ok hS cid who am ham
  rw [h1, h2] at h
  exact h
set_option maxRecDepth 100000 in
set_option maxHeartbeats 4000000 in
theorem rtake24_any (w : World) (G : Nat → Prop) (b : Nat) (I : Idl) (ok : IOk I) (hS : Sat w w [refA b I, rest w G]) (cid who am : Int) (ham : U64 am) : Calls Try.prog 34 #[.pointer (some ⟨b, 0, none⟩), .int .i64 cid, .int .i64 who, .int .u64 am] w fun e w' => e = .returned (.int .i64 (takeP I cid who am).2) ∧ Sat w w' [refA b (takeP I cid who am).1, rest w G] := by
 have ham2 := ham
 unfold U64 at ham2
 refine enter 37 Try.func34 rfl rfl rfl fun a F => ?_
 have S : Sat w w [rest w G, refA b I] := hS.pick [1, 0] (by decide)
 refine s_reg ?_
 refine l_pure 1 (fun L => (8, .int .i64 0) :: L) F (by kernel_rfl) fun a F => ?_
 refine l_then ?_
 refine s_reg ?_
 refine l_pure 4 (fun L => (15, .int .u64 am) :: (14, .int .i64 who) :: (13, .int .i64 cid) :: (12, .pointer (some ⟨b, 0, none⟩)) :: L) F (by kernel_rfl) fun a F => ?_
 rcases spend_alt ok cid who am with ⟨er, her, hsp, hsi⟩ | ⟨nn, pa, qa, xf, xh, xk, rfl, rfl, he, hxf, hxh, hxk, hle, hsp, hsi⟩ | ⟨nn, pa, qa, xf, xh, xk, rfl, rfl, he, hxf, hxh, hxk, hle, hsp, hsi⟩
 ·
  skip
  obtain ⟨G9, g9, hin9, hlt9, k9⟩ := S.frameB [1] (by decide) rfl
  refine l_do F rfl rfl (op_fn F (by kernel_rfl) (rspend24_at hsp hsi _ G9 b ok g9 ham) ?_)
  rintro e z9 ⟨rfl, g⟩
  have S : Sat w z9 [rest w G, refA b I] := k9 z9 [refA b I] rfl g
  clear g g9 k9 hin9 hlt9
  refine ⟨_, rfl, ?_⟩
  intro a F
  refine l_pure 5 (fun L => (10, .int .i64 er) :: (9, .int .i64 0) :: (18, .int .i64 er) :: (17, .int .i64 0) :: (11, .tuple #[.int .i64 0, .int .i64 er]) :: L) F (by kernel_rfl) fun a F => ?_
  refine l_then ?_
  refine wp_seq ?_
  refine s_reg ?_
  refine l_pure 1 (fun L => (19, .int .i64 er) :: L) F (by kernel_rfl) fun a F => ?_
  refine l_do F rfl rfl (op_pure F (v0 := .bool ((er : Int) == (0 : Int))) (v := .bool false) (by kernel_rfl) (eqlF her) fun a F => ?_)
  refine l_then ?_
  refine c_f F rfl ?_
  refine wp_skip ?_
  refine then_n ?_
  refine s_reg ?_
  refine l_pure 2 (fun L => (8, .int .i64 er) :: (36, .int .i64 er) :: L) F (by kernel_rfl) fun a F => ?_
  refine l_then ?_
  refine wp_ret ?_
  exact fin F [.tmp 8] [.int .i64 er] rfl ⟨by kernel_rfl, trivial⟩ (.int .i64 er) rfl ⟨by rw [take_err hsp her], by rw [take_err hsp her]; exact S.pick [1, 0] (by decide)⟩
 ·
  skip
  have hsm := ok.sums
  have hx1 := sumI_one _ _ _ ok.hu hxh
  have hx2 := sumF_one ok.fu hxf
  have hnn := (List.getElem?_eq_some_iff.1 hxf).1
  obtain ⟨G9, g9, hin9, hlt9, k9⟩ := S.frameB [1] (by decide) rfl
  refine l_do F rfl rfl (op_fn F (by kernel_rfl) (rspend24_at hsp hsi _ G9 b ok g9 ham) ?_)
  rintro e z9 ⟨rfl, g⟩
  have S : Sat w z9 [rest w G, refA b (⟨I.has, I.ends, I.free.set nn ((xf.1 - am, xf.2) : Int × Int), I.pays⟩ : Idl)] := k9 z9 [refA b (⟨I.has, I.ends, I.free.set nn ((xf.1 - am, xf.2) : Int × Int), I.pays⟩ : Idl)] rfl g
  clear g g9 k9 hin9 hlt9
  obtain ⟨Ah, ch, Ae, ce, Af, cf, Al, cl, qs, hqs, S⟩ := ref_open (S.pick [1, 0] (by decide))
  have S : Sat w z9 [rest w G, box b 74 [.slice Ah I.has.length ch, .slice Ae I.ends.length ce, .slice Af ((I.free.set nn ((xf.1 - am, xf.2) : Int × Int)).length) cf, .slice Al qs.length cl], rUl Ah ch I.has, rEl Ae ce I.ends, rFl Af cf (I.free.set nn ((xf.1 - am, xf.2) : Int × Int)), rPl Al cl qs, bag (qs.flatMap legRows)] := S
  refine ⟨_, rfl, ?_⟩
  intro a F
  refine l_pure 5 (fun L => (10, .int .i64 0) :: (9, .int .i64 0) :: (18, .int .i64 0) :: (17, .int .i64 0) :: (11, .tuple #[.int .i64 0, .int .i64 0]) :: L) F (by kernel_rfl) fun a F => ?_
  refine l_then ?_
  refine wp_seq ?_
  refine s_reg ?_
  refine l_pure 2 (fun L => (20, .bool true) :: (19, .int .i64 0) :: L) F (by kernel_rfl) fun a F => ?_
  refine l_then ?_
  refine c_t F rfl ?_
  refine region_gx (fun D => fun (_ : Unit) => [rest w G, box b 74 [.slice Ah I.has.length ch, .slice Ae I.ends.length ce, .slice Af ((I.free.set nn ((xf.1 - am, xf.2) : Int × Int)).length) cf, .slice Al qs.length cl], bif D 15 then rU Ah I.has.length ch (I.has.set pa (xh + am)) else rUl Ah ch I.has, rEl Ae ce I.ends, rFl Af cf (I.free.set nn ((xf.1 - am, xf.2) : Int × Int)), rPl Al cl qs, bag (qs.flatMap legRows)]) (fun (_ : Unit) => [.pointer (some ⟨b, 0, none⟩), .pointer (some ⟨b, 0, none⟩), .pointer (some ⟨b, 0, none⟩), .slice Ah I.has.length ch, .int .i64 (pa : Nat), .pointer (some ⟨b, 0, none⟩), .pointer (some ⟨b, 0, none⟩), .pointer (some ⟨b, 0, none⟩), .slice Ah I.has.length ch, .int .i64 (pa : Nat), ptrA Ah (pa * 1), .int .u64 xh, .int .u64 am, .int .u64 (xh + am), ptrA Ah (pa * 1), undef]) [(3, [], [14, 15]), (8, [], [10, 11, 13, 14, 15]), (10, [8], [11, 13, 14, 15]), (11, [8, 10], [13, 14, 15]), (13, [8, 10, 11], [14, 15]), (14, [3, 8, 10, 11, 13], [15]), (15, [3, 8, 10, 11, 13, 14], [])] () rfl (by kernel_rfl) (by kernel_rfl) F S.drew ?_ ?_ ?_ ?_ ?_
  · rintro ⟨⟩; rfl
  · rintro ⟨⟩; kernel_rfl
  ·
   intro D D' x h
   cases x
   simp only [h 15 (by decide)]
  ·
   refine ⟨?_, ?_⟩
   ·
    refine ⟨_, rfl, rfl, by kernel_rfl, ?_⟩
    rintro D ⟨⟩ a z S F
    refine ⟨by kernel_rfl, ?_⟩
    exact op_load _ _ (some ⟨b, 0, none⟩) 0 (.slice Ah I.has.length ch) F rfl (by kernel_rfl) (by kernel_rfl) (cBox S 1 rfl (j := 0) rfl) (⟨(), rfl, (SameB.refl _ _ rfl), S⟩)
   refine ⟨?_, ?_⟩
   ·
    refine ⟨_, rfl, rfl, by kernel_rfl, ?_⟩
    rintro D ⟨⟩ a z S F
    refine ⟨by kernel_rfl, ?_⟩
    exact op_load _ _ (some ⟨b, 0, none⟩) 0 (.slice Ah I.has.length ch) F rfl (by kernel_rfl) (by kernel_rfl) (cBox S 1 rfl (j := 0) rfl) (⟨(), rfl, (SameB.refl _ _ rfl), S⟩)
   refine ⟨?_, ?_⟩
   ·
    refine ⟨_, rfl, rfl, by kernel_rfl, ?_⟩
    rintro D ⟨⟩ a z S F
    refine ⟨by kernel_rfl, ?_⟩
    exact op_index _ 23 _ _ Ah I.has.length ch pa 1 .i64 F rfl (by kernel_rfl) (by kernel_rfl) (by kernel_rfl) (by kernel_rfl) (get_lt hxh) (row_some S 2 rfl (m := pa) (get_lt hxh)) (⟨(), rfl, (SameB.refl _ _ rfl), S⟩)
   refine ⟨?_, ?_⟩
   ·
    refine ⟨_, rfl, rfl, by kernel_rfl, ?_⟩
    rintro D ⟨⟩ a z S F
    refine ⟨by kernel_rfl, ?_⟩
    exact op_load _ _ Ah (pa * 1) (.int .u64 xh) F rfl (by kernel_rfl) (by kernel_rfl) (cRec S 2 iC_len_u64 rfl 0 hxh rfl) (⟨(), rfl, (SameB.refl _ _ rfl), S⟩)
   refine ⟨?_, ?_⟩
   ·
    refine ⟨_, rfl, rfl, by kernel_rfl, ?_⟩
    rintro D ⟨⟩ a z S F
    refine ⟨by kernel_rfl, ?_⟩
    exact op_pure F (v0 := .int .u64 (IntKind.wrap .u64 (xh + am))) (v := .int .u64 (xh + am)) (by kernel_rfl) (wr_u64 (by omega) (by omega)) ⟨(), rfl, (SameB.refl _ _ rfl), S⟩
   refine ⟨?_, ?_⟩
   ·
    refine ⟨_, rfl, rfl, by kernel_rfl, ?_⟩
    rintro D ⟨⟩ a z S F
    refine ⟨by kernel_rfl, ?_⟩
    exact op_index _ 23 _ _ Ah I.has.length ch pa 1 .i64 F rfl (by kernel_rfl) (by kernel_rfl) (by kernel_rfl) (by kernel_rfl) (get_lt hxh) (row_some S 2 rfl (m := pa) (get_lt hxh)) (⟨(), rfl, (SameB.refl _ _ rfl), S⟩)
   refine ⟨?_, ?_⟩
   ·
    refine ⟨_, rfl, rfl, by kernel_rfl, ?_⟩
    rintro D ⟨⟩ a z S F
    refine ⟨by kernel_rfl, ?_⟩
    exact op_storeRec S 2 _ _ _ Ah pa 1 0 (.int .u64 (xh + am)) (xh + am) F iC_len_u64 hxh rfl rfl (by kernel_rfl) (by kernel_rfl) (by kernel_rfl) (by kernel_rfl) (by kernel_rfl) (by kernel_rfl) (by kernel_rfl) fun z S => ⟨(), rfl, (SameB.refl _ _ rfl), S⟩
   trivial
  ·
   rintro ⟨⟩ a z F S
   have F := F.sub (l := [(10, .int .i64 0)]) ⟨by kernel_rfl, trivial⟩
   have S : Sat w z [rest w G, box b 74 [.slice Ah I.has.length ch, .slice Ae I.ends.length ce, .slice Af ((I.free.set nn ((xf.1 - am, xf.2) : Int × Int)).length) cf, .slice Al qs.length cl], rU Ah I.has.length ch (I.has.set pa (xh + am)), rEl Ae ce I.ends, rFl Af cf (I.free.set nn ((xf.1 - am, xf.2) : Int × Int)), rPl Al cl qs, bag (qs.flatMap legRows)] := S
   refine then_n ?_
   refine s_reg ?_
   refine l_pure 2 (fun L => (8, .int .i64 0) :: (36, .int .i64 0) :: L) F (by kernel_rfl) fun a F => ?_
   refine l_then ?_
   refine wp_ret ?_
   exact fin F [.tmp 8] [.int .i64 0] rfl ⟨by kernel_rfl, trivial⟩ (.int .i64 0) rfl ⟨by rw [take_ok (s := 0) hsp hxh hxf], by rw [take_ok (s := 0) hsp hxh hxf]; exact (ref_shut hqs (by simp) (by simp) (by simp) (by simp) (S.pick [0, 1, 2, 3, 4, 5, 6] (by decide)))⟩
 ·
  skip
  have hsm := ok.sums
  have hx1 := sumI_one _ _ _ ok.hu hxh
  have hx2 := sumF_one ok.fu hxf
  have hnn := (List.getElem?_eq_some_iff.1 hxf).1
  obtain ⟨G9, g9, hin9, hlt9, k9⟩ := S.frameB [1] (by decide) rfl
  refine l_do F rfl rfl (op_fn F (by kernel_rfl) (rspend24_at hsp hsi _ G9 b ok g9 ham) ?_)
  rintro e z9 ⟨rfl, g⟩
  have S : Sat w z9 [rest w G, refA b (⟨I.has, I.ends, I.free.set nn ((xf.1, xf.2 - am) : Int × Int), I.pays⟩ : Idl)] := k9 z9 [refA b (⟨I.has, I.ends, I.free.set nn ((xf.1, xf.2 - am) : Int × Int), I.pays⟩ : Idl)] rfl g
  clear g g9 k9 hin9 hlt9
  obtain ⟨Ah, ch, Ae, ce, Af, cf, Al, cl, qs, hqs, S⟩ := ref_open (S.pick [1, 0] (by decide))
  have S : Sat w z9 [rest w G, box b 74 [.slice Ah I.has.length ch, .slice Ae I.ends.length ce, .slice Af ((I.free.set nn ((xf.1, xf.2 - am) : Int × Int)).length) cf, .slice Al qs.length cl], rUl Ah ch I.has, rEl Ae ce I.ends, rFl Af cf (I.free.set nn ((xf.1, xf.2 - am) : Int × Int)), rPl Al cl qs, bag (qs.flatMap legRows)] := S
  refine ⟨_, rfl, ?_⟩
  intro a F
  refine l_pure 5 (fun L => (10, .int .i64 0) :: (9, .int .i64 1) :: (18, .int .i64 0) :: (17, .int .i64 1) :: (11, .tuple #[.int .i64 1, .int .i64 0]) :: L) F (by kernel_rfl) fun a F => ?_
  refine l_then ?_
  refine wp_seq ?_
  refine s_reg ?_
  refine l_pure 2 (fun L => (20, .bool true) :: (19, .int .i64 0) :: L) F (by kernel_rfl) fun a F => ?_
  refine l_then ?_
  refine c_t F rfl ?_
  refine region_gx (fun D => fun (_ : Unit) => [rest w G, box b 74 [.slice Ah I.has.length ch, .slice Ae I.ends.length ce, .slice Af ((I.free.set nn ((xf.1, xf.2 - am) : Int × Int)).length) cf, .slice Al qs.length cl], bif D 15 then rU Ah I.has.length ch (I.has.set qa (xh + am)) else rUl Ah ch I.has, rEl Ae ce I.ends, rFl Af cf (I.free.set nn ((xf.1, xf.2 - am) : Int × Int)), rPl Al cl qs, bag (qs.flatMap legRows)]) (fun (_ : Unit) => [.pointer (some ⟨b, 0, none⟩), .pointer (some ⟨b, 0, none⟩), .pointer (some ⟨b, 0, none⟩), .slice Ah I.has.length ch, .int .i64 (qa : Nat), .pointer (some ⟨b, 0, none⟩), .pointer (some ⟨b, 0, none⟩), .pointer (some ⟨b, 0, none⟩), .slice Ah I.has.length ch, .int .i64 (qa : Nat), ptrA Ah (qa * 1), .int .u64 xh, .int .u64 am, .int .u64 (xh + am), ptrA Ah (qa * 1), undef]) [(3, [], [14, 15]), (8, [], [10, 11, 13, 14, 15]), (10, [8], [11, 13, 14, 15]), (11, [8, 10], [13, 14, 15]), (13, [8, 10, 11], [14, 15]), (14, [3, 8, 10, 11, 13], [15]), (15, [3, 8, 10, 11, 13, 14], [])] () rfl (by kernel_rfl) (by kernel_rfl) F S.drew ?_ ?_ ?_ ?_ ?_
  · rintro ⟨⟩; rfl
  · rintro ⟨⟩; kernel_rfl
  ·
   intro D D' x h
   cases x
   simp only [h 15 (by decide)]
  ·
   refine ⟨?_, ?_⟩
   ·
    refine ⟨_, rfl, rfl, by kernel_rfl, ?_⟩
    rintro D ⟨⟩ a z S F
    refine ⟨by kernel_rfl, ?_⟩
    exact op_load _ _ (some ⟨b, 0, none⟩) 0 (.slice Ah I.has.length ch) F rfl (by kernel_rfl) (by kernel_rfl) (cBox S 1 rfl (j := 0) rfl) (⟨(), rfl, (SameB.refl _ _ rfl), S⟩)
   refine ⟨?_, ?_⟩
   ·
    refine ⟨_, rfl, rfl, by kernel_rfl, ?_⟩
    rintro D ⟨⟩ a z S F
    refine ⟨by kernel_rfl, ?_⟩
    exact op_load _ _ (some ⟨b, 0, none⟩) 0 (.slice Ah I.has.length ch) F rfl (by kernel_rfl) (by kernel_rfl) (cBox S 1 rfl (j := 0) rfl) (⟨(), rfl, (SameB.refl _ _ rfl), S⟩)
   refine ⟨?_, ?_⟩
   ·
    refine ⟨_, rfl, rfl, by kernel_rfl, ?_⟩
    rintro D ⟨⟩ a z S F
    refine ⟨by kernel_rfl, ?_⟩
    exact op_index _ 23 _ _ Ah I.has.length ch qa 1 .i64 F rfl (by kernel_rfl) (by kernel_rfl) (by kernel_rfl) (by kernel_rfl) (get_lt hxh) (row_some S 2 rfl (m := qa) (get_lt hxh)) (⟨(), rfl, (SameB.refl _ _ rfl), S⟩)
   refine ⟨?_, ?_⟩
   ·
    refine ⟨_, rfl, rfl, by kernel_rfl, ?_⟩
    rintro D ⟨⟩ a z S F
    refine ⟨by kernel_rfl, ?_⟩
    exact op_load _ _ Ah (qa * 1) (.int .u64 xh) F rfl (by kernel_rfl) (by kernel_rfl) (cRec S 2 iC_len_u64 rfl 0 hxh rfl) (⟨(), rfl, (SameB.refl _ _ rfl), S⟩)
   refine ⟨?_, ?_⟩
   ·
    refine ⟨_, rfl, rfl, by kernel_rfl, ?_⟩
    rintro D ⟨⟩ a z S F
    refine ⟨by kernel_rfl, ?_⟩
    exact op_pure F (v0 := .int .u64 (IntKind.wrap .u64 (xh + am))) (v := .int .u64 (xh + am)) (by kernel_rfl) (wr_u64 (by omega) (by omega)) ⟨(), rfl, (SameB.refl _ _ rfl), S⟩
   refine ⟨?_, ?_⟩
   ·
    refine ⟨_, rfl, rfl, by kernel_rfl, ?_⟩
    rintro D ⟨⟩ a z S F
    refine ⟨by kernel_rfl, ?_⟩
    exact op_index _ 23 _ _ Ah I.has.length ch qa 1 .i64 F rfl (by kernel_rfl) (by kernel_rfl) (by kernel_rfl) (by kernel_rfl) (get_lt hxh) (row_some S 2 rfl (m := qa) (get_lt hxh)) (⟨(), rfl, (SameB.refl _ _ rfl), S⟩)
   refine ⟨?_, ?_⟩
   ·
    refine ⟨_, rfl, rfl, by kernel_rfl, ?_⟩
    rintro D ⟨⟩ a z S F
    refine ⟨by kernel_rfl, ?_⟩
    exact op_storeRec S 2 _ _ _ Ah qa 1 0 (.int .u64 (xh + am)) (xh + am) F iC_len_u64 hxh rfl rfl (by kernel_rfl) (by kernel_rfl) (by kernel_rfl) (by kernel_rfl) (by kernel_rfl) (by kernel_rfl) (by kernel_rfl) fun z S => ⟨(), rfl, (SameB.refl _ _ rfl), S⟩
   trivial
  ·
   rintro ⟨⟩ a z F S
   have F := F.sub (l := [(10, .int .i64 0)]) ⟨by kernel_rfl, trivial⟩
   have S : Sat w z [rest w G, box b 74 [.slice Ah I.has.length ch, .slice Ae I.ends.length ce, .slice Af ((I.free.set nn ((xf.1, xf.2 - am) : Int × Int)).length) cf, .slice Al qs.length cl], rU Ah I.has.length ch (I.has.set qa (xh + am)), rEl Ae ce I.ends, rFl Af cf (I.free.set nn ((xf.1, xf.2 - am) : Int × Int)), rPl Al cl qs, bag (qs.flatMap legRows)] := S
   refine then_n ?_
   refine s_reg ?_
   refine l_pure 2 (fun L => (8, .int .i64 0) :: (36, .int .i64 0) :: L) F (by kernel_rfl) fun a F => ?_
   refine l_then ?_
   refine wp_ret ?_
   exact fin F [.tmp 8] [.int .i64 0] rfl ⟨by kernel_rfl, trivial⟩ (.int .i64 0) rfl ⟨by rw [take_ok (s := 1) hsp hxh hxf], by rw [take_ok (s := 1) hsp hxh hxf]; exact (ref_shut hqs (by simp) (by simp) (by simp) (by simp) (S.pick [0, 1, 2, 3, 4, 5, 6] (by decide)))⟩
set_option maxRecDepth 100000 in
set_option maxHeartbeats 4000000 in
theorem rmove24_any (w : World) (G : Nat → Prop) (b : Nat) (I : Idl) (ok : IOk I) (hS : Sat w w [refA b I, rest w G]) (cid who am : Int) (ham : U64 am) : Calls Try.prog 35 #[.pointer (some ⟨b, 0, none⟩), .int .i64 cid, .int .i64 who, .int .u64 am] w fun e w' => e = .returned (.int .i64 (moveP I cid who am).2) ∧ Sat w w' [refA b (moveP I cid who am).1, rest w G] := by
 have ham2 := ham
 unfold U64 at ham2
 refine enter 43 Try.func35 rfl rfl rfl fun a F => ?_
 have S : Sat w w [rest w G, refA b I] := hS.pick [1, 0] (by decide)
 refine s_reg ?_
 refine l_pure 1 (fun L => (8, .int .i64 0) :: L) F (by kernel_rfl) fun a F => ?_
 refine l_then ?_
 refine s_reg ?_
 refine l_pure 4 (fun L => (15, .int .u64 am) :: (14, .int .i64 who) :: (13, .int .i64 cid) :: (12, .pointer (some ⟨b, 0, none⟩)) :: L) F (by kernel_rfl) fun a F => ?_
 rcases spend_alt ok cid who am with ⟨er, her, hsp, hsi⟩ | ⟨nn, pa, qa, xf, xh, xk, rfl, rfl, he, hxf, hxh, hxk, hle, hsp, hsi⟩ | ⟨nn, pa, qa, xf, xh, xk, rfl, rfl, he, hxf, hxh, hxk, hle, hsp, hsi⟩
 ·
  skip
  obtain ⟨G9, g9, hin9, hlt9, k9⟩ := S.frameB [1] (by decide) rfl
  refine l_do F rfl rfl (op_fn F (by kernel_rfl) (rspend24_at hsp hsi _ G9 b ok g9 ham) ?_)
  rintro e z9 ⟨rfl, g⟩
  have S : Sat w z9 [rest w G, refA b I] := k9 z9 [refA b I] rfl g
  clear g g9 k9 hin9 hlt9
  refine ⟨_, rfl, ?_⟩
  intro a F
  refine l_pure 5 (fun L => (10, .int .i64 er) :: (9, .int .i64 0) :: (18, .int .i64 er) :: (17, .int .i64 0) :: (11, .tuple #[.int .i64 0, .int .i64 er]) :: L) F (by kernel_rfl) fun a F => ?_
  refine l_then ?_
  refine wp_seq ?_
  refine s_reg ?_
  refine l_pure 1 (fun L => (19, .int .i64 er) :: L) F (by kernel_rfl) fun a F => ?_
  refine l_do F rfl rfl (op_pure F (v0 := .bool ((er : Int) == (0 : Int))) (v := .bool false) (by kernel_rfl) (eqlF her) fun a F => ?_)
  refine l_then ?_
  refine c_f F rfl ?_
  refine wp_skip ?_
  refine then_n ?_
  refine s_reg ?_
  refine l_pure 2 (fun L => (8, .int .i64 er) :: (42, .int .i64 er) :: L) F (by kernel_rfl) fun a F => ?_
  refine l_then ?_
  refine wp_ret ?_
  exact fin F [.tmp 8] [.int .i64 er] rfl ⟨by kernel_rfl, trivial⟩ (.int .i64 er) rfl ⟨by rw [move_err hsp her], by rw [move_err hsp her]; exact S.pick [1, 0] (by decide)⟩
 ·
  skip
  have hsm := ok.sums
  have hx1 := sumI_one _ _ _ ok.hu hxh
  have hx2 := sumF_one ok.fu hxf
  have hnn := (List.getElem?_eq_some_iff.1 hxf).1
  obtain ⟨G9, g9, hin9, hlt9, k9⟩ := S.frameB [1] (by decide) rfl
  refine l_do F rfl rfl (op_fn F (by kernel_rfl) (rspend24_at hsp hsi _ G9 b ok g9 ham) ?_)
  rintro e z9 ⟨rfl, g⟩
  have S : Sat w z9 [rest w G, refA b (⟨I.has, I.ends, I.free.set nn ((xf.1 - am, xf.2) : Int × Int), I.pays⟩ : Idl)] := k9 z9 [refA b (⟨I.has, I.ends, I.free.set nn ((xf.1 - am, xf.2) : Int × Int), I.pays⟩ : Idl)] rfl g
  clear g g9 k9 hin9 hlt9
  obtain ⟨Ah, ch, Ae, ce, Af, cf, Al, cl, qs, hqs, S⟩ := ref_open (S.pick [1, 0] (by decide))
  have S : Sat w z9 [rest w G, box b 74 [.slice Ah I.has.length ch, .slice Ae I.ends.length ce, .slice Af ((I.free.set nn ((xf.1 - am, xf.2) : Int × Int)).length) cf, .slice Al qs.length cl], rUl Ah ch I.has, rEl Ae ce I.ends, rFl Af cf (I.free.set nn ((xf.1 - am, xf.2) : Int × Int)), rPl Al cl qs, bag (qs.flatMap legRows)] := S
  refine ⟨_, rfl, ?_⟩
  intro a F
  refine l_pure 5 (fun L => (10, .int .i64 0) :: (9, .int .i64 0) :: (18, .int .i64 0) :: (17, .int .i64 0) :: (11, .tuple #[.int .i64 0, .int .i64 0]) :: L) F (by kernel_rfl) fun a F => ?_
  refine l_then ?_
  refine wp_seq ?_
  refine s_reg ?_
  refine l_pure 2 (fun L => (20, .bool true) :: (19, .int .i64 0) :: L) F (by kernel_rfl) fun a F => ?_
  refine l_then ?_
  refine c_t F rfl ?_
  refine region_gx (fun D => fun (_ : Unit) => [rest w G, box b 74 [.slice Ah I.has.length ch, .slice Ae I.ends.length ce, .slice Af ((I.free.set nn ((xf.1 - am, xf.2) : Int × Int)).length) cf, .slice Al qs.length cl], rUl Ah ch I.has, rEl Ae ce I.ends, bif D 21 then rF Af ((I.free.set nn ((xf.1 - am, xf.2) : Int × Int)).length) cf ((I.free.set nn ((xf.1 - am, xf.2) : Int × Int)).set nn ((xf.1 - am, xf.2 + am) : Int × Int)) else rFl Af cf (I.free.set nn ((xf.1 - am, xf.2) : Int × Int)), rPl Al cl qs, bag (qs.flatMap legRows)]) (fun (_ : Unit) => [.pointer (some ⟨b, 0, none⟩), .pointer (some ⟨b, 0, none⟩), .pointer (some ⟨b, 2, none⟩), .slice Af ((I.free.set nn ((xf.1 - am, xf.2) : Int × Int)).length) cf, .int .i64 (nn : Nat), .int .i64 0, .int .i64 1, .pointer (some ⟨b, 0, none⟩), .pointer (some ⟨b, 0, none⟩), .pointer (some ⟨b, 2, none⟩), .slice Af ((I.free.set nn ((xf.1 - am, xf.2) : Int × Int)).length) cf, .int .i64 (nn : Nat), .int .i64 0, .int .i64 1, ptrA Af (nn * 2), ptrA Af (nn * 2 + 1), .int .u64 xf.2, .int .u64 am, .int .u64 (xf.2 + am), ptrA Af (nn * 2), ptrA Af (nn * 2 + 1), undef]) [(3, [], [19, 20, 21]), (10, [], [14, 15, 16, 18, 20, 21]), (14, [10], [15, 16, 18, 20, 21]), (15, [10, 14], [16, 18, 20, 21]), (16, [10, 14, 15], [18, 20, 21]), (18, [10, 14, 15, 16], [20, 21]), (19, [3], [20, 21]), (20, [3, 10, 14, 15, 16, 18, 19], [21]), (21, [3, 10, 14, 15, 16, 18, 19, 20], [])] () rfl (by kernel_rfl) (by kernel_rfl) F S.drew ?_ ?_ ?_ ?_ ?_
  · rintro ⟨⟩; rfl
  · rintro ⟨⟩; kernel_rfl
  ·
   intro D D' x h
   cases x
   simp only [h 21 (by decide)]
  ·
   refine ⟨?_, ?_⟩
   ·
    refine ⟨_, rfl, rfl, by kernel_rfl, ?_⟩
    rintro D ⟨⟩ a z S F
    refine ⟨by kernel_rfl, ?_⟩
    exact op_load _ _ (some ⟨b, 0, none⟩) 2 (.slice Af ((I.free.set nn ((xf.1 - am, xf.2) : Int × Int)).length) cf) F rfl (by kernel_rfl) (by kernel_rfl) (cBox S 1 rfl (j := 2) rfl) (⟨(), rfl, (SameB.refl _ _ rfl), S⟩)
   refine ⟨?_, ?_⟩
   ·
    refine ⟨_, rfl, rfl, by kernel_rfl, ?_⟩
    rintro D ⟨⟩ a z S F
    refine ⟨by kernel_rfl, ?_⟩
    exact op_load _ _ (some ⟨b, 0, none⟩) 2 (.slice Af ((I.free.set nn ((xf.1 - am, xf.2) : Int × Int)).length) cf) F rfl (by kernel_rfl) (by kernel_rfl) (cBox S 1 rfl (j := 2) rfl) (⟨(), rfl, (SameB.refl _ _ rfl), S⟩)
   refine ⟨?_, ?_⟩
   ·
    refine ⟨_, rfl, rfl, by kernel_rfl, ?_⟩
    rintro D ⟨⟩ a z S F
    refine ⟨by kernel_rfl, ?_⟩
    exact op_index _ 31 _ _ Af ((I.free.set nn ((xf.1 - am, xf.2) : Int × Int)).length) cf nn 2 .i64 F rfl (by kernel_rfl) (by kernel_rfl) (by kernel_rfl) (by kernel_rfl) (get_lt (set_at (y := ((xf.1 - am, xf.2) : Int × Int)) hxf)) (row_some S 4 rfl (m := nn) (get_lt (set_at (y := ((xf.1 - am, xf.2) : Int × Int)) hxf))) (⟨(), rfl, (SameB.refl _ _ rfl), S⟩)
   refine ⟨?_, ?_⟩
   ·
    refine ⟨_, rfl, rfl, by kernel_rfl, ?_⟩
    rintro D ⟨⟩ a z S F
    refine ⟨by kernel_rfl, ?_⟩
    exact op_indexArr _ 23 _ _ Af (nn * 2) 2 1 1 .i64 F rfl (by kernel_rfl) (by kernel_rfl) (by kernel_rfl) (by kernel_rfl) (by decide) (row_some S 4 rfl (m := nn) (get_lt (set_at (y := ((xf.1 - am, xf.2) : Int × Int)) hxf))) (⟨(), rfl, (SameB.refl _ _ rfl), S⟩)
   refine ⟨?_, ?_⟩
   ·
    refine ⟨_, rfl, rfl, by kernel_rfl, ?_⟩
    rintro D ⟨⟩ a z S F
    refine ⟨by kernel_rfl, ?_⟩
    exact op_load _ _ Af (nn * 2 + 1) (.int .u64 xf.2) F rfl (by kernel_rfl) (by kernel_rfl) (cRec S 4 frC_len rfl 1 (set_at (y := ((xf.1 - am, xf.2) : Int × Int)) hxf) rfl) (⟨(), rfl, (SameB.refl _ _ rfl), S⟩)
   refine ⟨?_, ?_⟩
   ·
    refine ⟨_, rfl, rfl, by kernel_rfl, ?_⟩
    rintro D ⟨⟩ a z S F
    refine ⟨by kernel_rfl, ?_⟩
    exact op_pure F (v0 := .int .u64 (IntKind.wrap .u64 (xf.2 + am))) (v := .int .u64 (xf.2 + am)) (by kernel_rfl) (wr_u64 (by omega) (by omega)) ⟨(), rfl, (SameB.refl _ _ rfl), S⟩
   refine ⟨?_, ?_⟩
   ·
    refine ⟨_, rfl, rfl, by kernel_rfl, ?_⟩
    rintro D ⟨⟩ a z S F
    refine ⟨by kernel_rfl, ?_⟩
    exact op_index _ 31 _ _ Af ((I.free.set nn ((xf.1 - am, xf.2) : Int × Int)).length) cf nn 2 .i64 F rfl (by kernel_rfl) (by kernel_rfl) (by kernel_rfl) (by kernel_rfl) (get_lt (set_at (y := ((xf.1 - am, xf.2) : Int × Int)) hxf)) (row_some S 4 rfl (m := nn) (get_lt (set_at (y := ((xf.1 - am, xf.2) : Int × Int)) hxf))) (⟨(), rfl, (SameB.refl _ _ rfl), S⟩)
   refine ⟨?_, ?_⟩
   ·
    refine ⟨_, rfl, rfl, by kernel_rfl, ?_⟩
    rintro D ⟨⟩ a z S F
    refine ⟨by kernel_rfl, ?_⟩
    exact op_indexArr _ 23 _ _ Af (nn * 2) 2 1 1 .i64 F rfl (by kernel_rfl) (by kernel_rfl) (by kernel_rfl) (by kernel_rfl) (by decide) (row_some S 4 rfl (m := nn) (get_lt (set_at (y := ((xf.1 - am, xf.2) : Int × Int)) hxf))) (⟨(), rfl, (SameB.refl _ _ rfl), S⟩)
   refine ⟨?_, ?_⟩
   ·
    refine ⟨_, rfl, rfl, by kernel_rfl, ?_⟩
    rintro D ⟨⟩ a z S F
    refine ⟨by kernel_rfl, ?_⟩
    exact op_storeRec S 4 _ _ _ Af nn 2 1 (.int .u64 (xf.2 + am)) ((xf.1 - am, xf.2 + am) : Int × Int) F frC_len (set_at (y := ((xf.1 - am, xf.2) : Int × Int)) hxf) rfl rfl (by kernel_rfl) (by kernel_rfl) (by kernel_rfl) (by kernel_rfl) (by kernel_rfl) (by kernel_rfl) (by kernel_rfl) fun z S => ⟨(), rfl, (SameB.refl _ _ rfl), S⟩
   trivial
  ·
   rintro ⟨⟩ a z F S
   have F := F.sub (l := [(10, .int .i64 0)]) ⟨by kernel_rfl, trivial⟩
   have S : Sat w z [rest w G, box b 74 [.slice Ah I.has.length ch, .slice Ae I.ends.length ce, .slice Af ((I.free.set nn ((xf.1 - am, xf.2) : Int × Int)).length) cf, .slice Al qs.length cl], rUl Ah ch I.has, rEl Ae ce I.ends, rF Af ((I.free.set nn ((xf.1 - am, xf.2) : Int × Int)).length) cf ((I.free.set nn ((xf.1 - am, xf.2) : Int × Int)).set nn ((xf.1 - am, xf.2 + am) : Int × Int)), rPl Al cl qs, bag (qs.flatMap legRows)] := S
   refine then_n ?_
   refine s_reg ?_
   refine l_pure 2 (fun L => (8, .int .i64 0) :: (42, .int .i64 0) :: L) F (by kernel_rfl) fun a F => ?_
   refine l_then ?_
   refine wp_ret ?_
   rw [List.set_set] at S
   exact fin F [.tmp 8] [.int .i64 0] rfl ⟨by kernel_rfl, trivial⟩ (.int .i64 0) rfl ⟨by rw [move_ok (s := 0) hsp hxf], by rw [move_ok (s := 0) hsp hxf]; exact (ref_shut hqs (by simp) (by simp) (by simp) (by simp) (S.pick [0, 1, 2, 3, 4, 5, 6] (by decide)))⟩
 ·
  skip
  have hsm := ok.sums
  have hx1 := sumI_one _ _ _ ok.hu hxh
  have hx2 := sumF_one ok.fu hxf
  have hnn := (List.getElem?_eq_some_iff.1 hxf).1
  obtain ⟨G9, g9, hin9, hlt9, k9⟩ := S.frameB [1] (by decide) rfl
  refine l_do F rfl rfl (op_fn F (by kernel_rfl) (rspend24_at hsp hsi _ G9 b ok g9 ham) ?_)
  rintro e z9 ⟨rfl, g⟩
  have S : Sat w z9 [rest w G, refA b (⟨I.has, I.ends, I.free.set nn ((xf.1, xf.2 - am) : Int × Int), I.pays⟩ : Idl)] := k9 z9 [refA b (⟨I.has, I.ends, I.free.set nn ((xf.1, xf.2 - am) : Int × Int), I.pays⟩ : Idl)] rfl g
  clear g g9 k9 hin9 hlt9
  obtain ⟨Ah, ch, Ae, ce, Af, cf, Al, cl, qs, hqs, S⟩ := ref_open (S.pick [1, 0] (by decide))
  have S : Sat w z9 [rest w G, box b 74 [.slice Ah I.has.length ch, .slice Ae I.ends.length ce, .slice Af ((I.free.set nn ((xf.1, xf.2 - am) : Int × Int)).length) cf, .slice Al qs.length cl], rUl Ah ch I.has, rEl Ae ce I.ends, rFl Af cf (I.free.set nn ((xf.1, xf.2 - am) : Int × Int)), rPl Al cl qs, bag (qs.flatMap legRows)] := S
  refine ⟨_, rfl, ?_⟩
  intro a F
  refine l_pure 5 (fun L => (10, .int .i64 0) :: (9, .int .i64 1) :: (18, .int .i64 0) :: (17, .int .i64 1) :: (11, .tuple #[.int .i64 1, .int .i64 0]) :: L) F (by kernel_rfl) fun a F => ?_
  refine l_then ?_
  refine wp_seq ?_
  refine s_reg ?_
  refine l_pure 2 (fun L => (20, .bool true) :: (19, .int .i64 0) :: L) F (by kernel_rfl) fun a F => ?_
  refine l_then ?_
  refine c_t F rfl ?_
  refine region_gx (fun D => fun (_ : Unit) => [rest w G, box b 74 [.slice Ah I.has.length ch, .slice Ae I.ends.length ce, .slice Af ((I.free.set nn ((xf.1, xf.2 - am) : Int × Int)).length) cf, .slice Al qs.length cl], rUl Ah ch I.has, rEl Ae ce I.ends, bif D 21 then rF Af ((I.free.set nn ((xf.1, xf.2 - am) : Int × Int)).length) cf ((I.free.set nn ((xf.1, xf.2 - am) : Int × Int)).set nn ((xf.1 + am, xf.2 - am) : Int × Int)) else rFl Af cf (I.free.set nn ((xf.1, xf.2 - am) : Int × Int)), rPl Al cl qs, bag (qs.flatMap legRows)]) (fun (_ : Unit) => [.pointer (some ⟨b, 0, none⟩), .pointer (some ⟨b, 0, none⟩), .pointer (some ⟨b, 2, none⟩), .slice Af ((I.free.set nn ((xf.1, xf.2 - am) : Int × Int)).length) cf, .int .i64 (nn : Nat), .int .i64 1, .int .i64 0, .pointer (some ⟨b, 0, none⟩), .pointer (some ⟨b, 0, none⟩), .pointer (some ⟨b, 2, none⟩), .slice Af ((I.free.set nn ((xf.1, xf.2 - am) : Int × Int)).length) cf, .int .i64 (nn : Nat), .int .i64 1, .int .i64 0, ptrA Af (nn * 2), ptrA Af (nn * 2), .int .u64 xf.1, .int .u64 am, .int .u64 (xf.1 + am), ptrA Af (nn * 2), ptrA Af (nn * 2), undef]) [(3, [], [19, 20, 21]), (10, [], [14, 15, 16, 18, 20, 21]), (14, [10], [15, 16, 18, 20, 21]), (15, [10, 14], [16, 18, 20, 21]), (16, [10, 14, 15], [18, 20, 21]), (18, [10, 14, 15, 16], [20, 21]), (19, [3], [20, 21]), (20, [3, 10, 14, 15, 16, 18, 19], [21]), (21, [3, 10, 14, 15, 16, 18, 19, 20], [])] () rfl (by kernel_rfl) (by kernel_rfl) F S.drew ?_ ?_ ?_ ?_ ?_
  · rintro ⟨⟩; rfl
  · rintro ⟨⟩; kernel_rfl
  ·
   intro D D' x h
   cases x
   simp only [h 21 (by decide)]
  ·
   refine ⟨?_, ?_⟩
   ·
    refine ⟨_, rfl, rfl, by kernel_rfl, ?_⟩
    rintro D ⟨⟩ a z S F
    refine ⟨by kernel_rfl, ?_⟩
    exact op_load _ _ (some ⟨b, 0, none⟩) 2 (.slice Af ((I.free.set nn ((xf.1, xf.2 - am) : Int × Int)).length) cf) F rfl (by kernel_rfl) (by kernel_rfl) (cBox S 1 rfl (j := 2) rfl) (⟨(), rfl, (SameB.refl _ _ rfl), S⟩)
   refine ⟨?_, ?_⟩
   ·
    refine ⟨_, rfl, rfl, by kernel_rfl, ?_⟩
    rintro D ⟨⟩ a z S F
    refine ⟨by kernel_rfl, ?_⟩
    exact op_load _ _ (some ⟨b, 0, none⟩) 2 (.slice Af ((I.free.set nn ((xf.1, xf.2 - am) : Int × Int)).length) cf) F rfl (by kernel_rfl) (by kernel_rfl) (cBox S 1 rfl (j := 2) rfl) (⟨(), rfl, (SameB.refl _ _ rfl), S⟩)
   refine ⟨?_, ?_⟩
   ·
    refine ⟨_, rfl, rfl, by kernel_rfl, ?_⟩
    rintro D ⟨⟩ a z S F
    refine ⟨by kernel_rfl, ?_⟩
    exact op_index _ 31 _ _ Af ((I.free.set nn ((xf.1, xf.2 - am) : Int × Int)).length) cf nn 2 .i64 F rfl (by kernel_rfl) (by kernel_rfl) (by kernel_rfl) (by kernel_rfl) (get_lt (set_at (y := ((xf.1, xf.2 - am) : Int × Int)) hxf)) (row_some S 4 rfl (m := nn) (get_lt (set_at (y := ((xf.1, xf.2 - am) : Int × Int)) hxf))) (⟨(), rfl, (SameB.refl _ _ rfl), S⟩)
   refine ⟨?_, ?_⟩
   ·
    refine ⟨_, rfl, rfl, by kernel_rfl, ?_⟩
    rintro D ⟨⟩ a z S F
    refine ⟨by kernel_rfl, ?_⟩
    exact op_indexArr _ 23 _ _ Af (nn * 2) 2 0 1 .i64 F rfl (by kernel_rfl) (by kernel_rfl) (by kernel_rfl) (by kernel_rfl) (by decide) (row_some S 4 rfl (m := nn) (get_lt (set_at (y := ((xf.1, xf.2 - am) : Int × Int)) hxf))) (⟨(), rfl, (SameB.refl _ _ rfl), S⟩)
   refine ⟨?_, ?_⟩
   ·
    refine ⟨_, rfl, rfl, by kernel_rfl, ?_⟩
    rintro D ⟨⟩ a z S F
    refine ⟨by kernel_rfl, ?_⟩
    exact op_load _ _ Af (nn * 2) (.int .u64 xf.1) F rfl (by kernel_rfl) (by kernel_rfl) (cRec S 4 frC_len rfl 0 (set_at (y := ((xf.1, xf.2 - am) : Int × Int)) hxf) rfl) (⟨(), rfl, (SameB.refl _ _ rfl), S⟩)
   refine ⟨?_, ?_⟩
   ·
    refine ⟨_, rfl, rfl, by kernel_rfl, ?_⟩
    rintro D ⟨⟩ a z S F
    refine ⟨by kernel_rfl, ?_⟩
    exact op_pure F (v0 := .int .u64 (IntKind.wrap .u64 (xf.1 + am))) (v := .int .u64 (xf.1 + am)) (by kernel_rfl) (wr_u64 (by omega) (by omega)) ⟨(), rfl, (SameB.refl _ _ rfl), S⟩
   refine ⟨?_, ?_⟩
   ·
    refine ⟨_, rfl, rfl, by kernel_rfl, ?_⟩
    rintro D ⟨⟩ a z S F
    refine ⟨by kernel_rfl, ?_⟩
    exact op_index _ 31 _ _ Af ((I.free.set nn ((xf.1, xf.2 - am) : Int × Int)).length) cf nn 2 .i64 F rfl (by kernel_rfl) (by kernel_rfl) (by kernel_rfl) (by kernel_rfl) (get_lt (set_at (y := ((xf.1, xf.2 - am) : Int × Int)) hxf)) (row_some S 4 rfl (m := nn) (get_lt (set_at (y := ((xf.1, xf.2 - am) : Int × Int)) hxf))) (⟨(), rfl, (SameB.refl _ _ rfl), S⟩)
   refine ⟨?_, ?_⟩
   ·
    refine ⟨_, rfl, rfl, by kernel_rfl, ?_⟩
    rintro D ⟨⟩ a z S F
    refine ⟨by kernel_rfl, ?_⟩
    exact op_indexArr _ 23 _ _ Af (nn * 2) 2 0 1 .i64 F rfl (by kernel_rfl) (by kernel_rfl) (by kernel_rfl) (by kernel_rfl) (by decide) (row_some S 4 rfl (m := nn) (get_lt (set_at (y := ((xf.1, xf.2 - am) : Int × Int)) hxf))) (⟨(), rfl, (SameB.refl _ _ rfl), S⟩)
   refine ⟨?_, ?_⟩
   ·
    refine ⟨_, rfl, rfl, by kernel_rfl, ?_⟩
    rintro D ⟨⟩ a z S F
    refine ⟨by kernel_rfl, ?_⟩
    exact op_storeRec S 4 _ _ _ Af nn 2 0 (.int .u64 (xf.1 + am)) ((xf.1 + am, xf.2 - am) : Int × Int) F frC_len (set_at (y := ((xf.1, xf.2 - am) : Int × Int)) hxf) rfl rfl (by kernel_rfl) (by kernel_rfl) (by kernel_rfl) (by kernel_rfl) (by kernel_rfl) (by kernel_rfl) (by kernel_rfl) fun z S => ⟨(), rfl, (SameB.refl _ _ rfl), S⟩
   trivial
  ·
   rintro ⟨⟩ a z F S
   have F := F.sub (l := [(10, .int .i64 0)]) ⟨by kernel_rfl, trivial⟩
   have S : Sat w z [rest w G, box b 74 [.slice Ah I.has.length ch, .slice Ae I.ends.length ce, .slice Af ((I.free.set nn ((xf.1, xf.2 - am) : Int × Int)).length) cf, .slice Al qs.length cl], rUl Ah ch I.has, rEl Ae ce I.ends, rF Af ((I.free.set nn ((xf.1, xf.2 - am) : Int × Int)).length) cf ((I.free.set nn ((xf.1, xf.2 - am) : Int × Int)).set nn ((xf.1 + am, xf.2 - am) : Int × Int)), rPl Al cl qs, bag (qs.flatMap legRows)] := S
   refine then_n ?_
   refine s_reg ?_
   refine l_pure 2 (fun L => (8, .int .i64 0) :: (42, .int .i64 0) :: L) F (by kernel_rfl) fun a F => ?_
   refine l_then ?_
   refine wp_ret ?_
   rw [List.set_set] at S
   exact fin F [.tmp 8] [.int .i64 0] rfl ⟨by kernel_rfl, trivial⟩ (.int .i64 0) rfl ⟨by rw [move_ok (s := 1) hsp hxf], by rw [move_ok (s := 1) hsp hxf]; exact (ref_shut hqs (by simp) (by simp) (by simp) (by simp) (S.pick [0, 1, 2, 3, 4, 5, 6] (by decide)))⟩
end Go.Proofs.Ytecgpkjigbhneaa
