/- Walks over the program's ideal: looks; sums over payments. -/
import Derived.Test.YtecgpkjigbhneaaIdl1
import Derived.Test.YtecgpkjigbhneaaIdlS
namespace Go.Proofs.Ytecgpkjigbhneaa
set_option linter.unusedVariables false
set_option linter.unusedSimpArgs false
set_option linter.unnecessarySimpa false
open Go Go.RowKit

set_option maxRecDepth 100000 in
set_option maxHeartbeats 4000000 in
theorem cloneu_nil (w : World) : Calls Try.prog 26 #[.slice none 0 0] w fun e w' => ∃ (A' : Option Addr) (c' : Nat), e = .returned (.slice A' 0 c') ∧ Sat w w' [rest w (· < w.heap.size), row 23 1 (.slice A' 0 c') 0 (([] : List Int).flatMap iC_u64)] := by
 refine enter 8 Try.func26 rfl rfl rfl fun a F => ?_
 have S := Sat.pushRest w
 refine s_reg ?_
 refine l_pure 1 (fun L => (2, .slice none 0 0) :: L) F (by kernel_rfl) fun a F => ?_
 refine l_then ?_
 refine wp_seq ?_
 refine s_reg ?_
 refine l_pure 2 (fun L => (4, .bool true) :: (3, .slice none 0 0) :: L) F (by kernel_rfl) fun a F => ?_
 refine l_then ?_
 refine c_t F rfl ?_
 refine s_reg ?_
 refine l_pure 1 (fun L => (2, .slice none 0 0) :: L) F (by kernel_rfl) fun a F => ?_
 refine l_then ?_
 refine wp_ret ?_
 refine then_r (?_)
 exact fin F [.tmp 2] [.slice none 0 0] rfl ⟨by kernel_rfl, trivial⟩ (.slice none 0 0) rfl ⟨none, 0, rfl, (S.nilRow 23 1)⟩
set_option maxRecDepth 100000 in
set_option maxHeartbeats 4000000 in
theorem cloneu_some (w : World) (ad : Addr) (c : Nat) (X : List Int) (hX : Recs 1 iC_u64 w (some ad) c X) (hl : X.length ≤ 1000) : Calls Try.prog 26 #[.slice (some ad) X.length c] w fun e w' => ∃ (A' : Option Addr) (c' : Nat), e = .returned (.slice A' X.length c') ∧ Sat w w' [rest w (· < w.heap.size), row 23 1 (.slice A' X.length c') X.length (X.flatMap iC_u64)] := by
 refine enter 8 Try.func26 rfl rfl rfl fun a F => ?_
 have S := Sat.pushRest w
 refine s_reg ?_
 refine l_pure 1 (fun L => (2, .slice none 0 0) :: L) F (by kernel_rfl) fun a F => ?_
 refine l_then ?_
 refine wp_seq ?_
 refine s_reg ?_
 refine l_pure 2 (fun L => (4, .bool false) :: (3, .slice (some ad) X.length c) :: L) F (by kernel_rfl) fun a F => ?_
 refine l_then ?_
 refine c_f F rfl ?_
 refine wp_skip ?_
 refine then_n ?_
 refine s_reg ?_
 refine l_do F rfl rfl (op_buildSlice S _ 0 _ 23 1 iC_u64 ([] : List Int) F rfl (by kernel_rfl) (by kernel_rfl) (by kernel_rfl) (by unfold maxLen; omega) fun b1 z S a F => ?_)
 refine l_pure 1 (fun L => (6, .slice (some ad) X.length c) :: L) F (by kernel_rfl) fun a F => ?_
 refine l_do F rfl rfl (op_append S 1 _ _ _ 23 (.int .u64 0) 1 8 ([] : List Int) X iC_u64 (some ad) c F iC_len_u64 (fun _ => rfl) rfl rfl (by kernel_rfl) (by kernel_rfl) rfl rfl rfl (by kernel_rfl) (by kernel_rfl) hX.none_ (src_rest S (i := 0) rfl hX.src (src_lt hX.src)) (by first | omega | (simp <;> omega)) fun A2 c3 z S a F => ?_)
 refine l_pure 1 (fun L => (2, .slice A2 ((([] : List Int) ++ X).length) c3) :: L) F (by kernel_rfl) fun a F => ?_
 refine l_then ?_
 refine wp_ret ?_
 have hn : ∀ Y : List Int, [] ++ Y = Y := fun Y => rfl
 exact fin F [.tmp 2] [.slice A2 ((([] : List Int) ++ X).length) c3] rfl ⟨by kernel_rfl, trivial⟩ (.slice A2 ((([] : List Int) ++ X).length) c3) rfl ⟨A2, c3, by simp, by simpa using S.pick [0, 1] (by decide)⟩
theorem cloneu_any (w : World) (A : Option Addr) (c : Nat) (X : List Int) (hX : Recs 1 iC_u64 w A c X) (hl : X.length ≤ 1000) : Calls Try.prog 26 #[.slice A X.length c] w fun e w' => ∃ (A' : Option Addr) (c' : Nat), e = .returned (.slice A' X.length c') ∧ Sat w w' [rest w (· < w.heap.size), row 23 1 (.slice A' X.length c') X.length (X.flatMap iC_u64)] := by
  cases A with
  | none =>
    obtain ⟨h1, rfl⟩ := hX.none_ rfl
    obtain rfl := List.eq_nil_of_length_eq_zero h1
    exact cloneu_nil w
  | some ad => exact cloneu_some w ad c X hX hl
set_option maxRecDepth 100000 in
set_option maxHeartbeats 4000000 in
theorem clonei_nil (w : World) : Calls Try.prog 29 #[.slice none 0 0] w fun e w' => ∃ (A' : Option Addr) (c' : Nat), e = .returned (.slice A' 0 c') ∧ Sat w w' [rest w (· < w.heap.size), row 3 1 (.slice A' 0 c') 0 (([] : List Int).flatMap iC_i64)] := by
 refine enter 8 Try.func29 rfl rfl rfl fun a F => ?_
 have S := Sat.pushRest w
 refine s_reg ?_
 refine l_pure 1 (fun L => (2, .slice none 0 0) :: L) F (by kernel_rfl) fun a F => ?_
 refine l_then ?_
 refine wp_seq ?_
 refine s_reg ?_
 refine l_pure 2 (fun L => (4, .bool true) :: (3, .slice none 0 0) :: L) F (by kernel_rfl) fun a F => ?_
 refine l_then ?_
 refine c_t F rfl ?_
 refine s_reg ?_
 refine l_pure 1 (fun L => (2, .slice none 0 0) :: L) F (by kernel_rfl) fun a F => ?_
 refine l_then ?_
 refine wp_ret ?_
 refine then_r (?_)
 exact fin F [.tmp 2] [.slice none 0 0] rfl ⟨by kernel_rfl, trivial⟩ (.slice none 0 0) rfl ⟨none, 0, rfl, (S.nilRow 3 1)⟩
set_option maxRecDepth 100000 in
set_option maxHeartbeats 4000000 in
theorem clonei_some (w : World) (ad : Addr) (c : Nat) (X : List Int) (hX : Recs 1 iC_i64 w (some ad) c X) (hl : X.length ≤ 1000) : Calls Try.prog 29 #[.slice (some ad) X.length c] w fun e w' => ∃ (A' : Option Addr) (c' : Nat), e = .returned (.slice A' X.length c') ∧ Sat w w' [rest w (· < w.heap.size), row 3 1 (.slice A' X.length c') X.length (X.flatMap iC_i64)] := by
 refine enter 8 Try.func29 rfl rfl rfl fun a F => ?_
 have S := Sat.pushRest w
 refine s_reg ?_
 refine l_pure 1 (fun L => (2, .slice none 0 0) :: L) F (by kernel_rfl) fun a F => ?_
 refine l_then ?_
 refine wp_seq ?_
 refine s_reg ?_
 refine l_pure 2 (fun L => (4, .bool false) :: (3, .slice (some ad) X.length c) :: L) F (by kernel_rfl) fun a F => ?_
 refine l_then ?_
 refine c_f F rfl ?_
 refine wp_skip ?_
 refine then_n ?_
 refine s_reg ?_
 refine l_do F rfl rfl (op_buildSlice S _ 0 _ 3 1 iC_i64 ([] : List Int) F rfl (by kernel_rfl) (by kernel_rfl) (by kernel_rfl) (by unfold maxLen; omega) fun b1 z S a F => ?_)
 refine l_pure 1 (fun L => (6, .slice (some ad) X.length c) :: L) F (by kernel_rfl) fun a F => ?_
 refine l_do F rfl rfl (op_append S 1 _ _ _ 3 (.int .i64 0) 1 8 ([] : List Int) X iC_i64 (some ad) c F iC_len_i64 (fun _ => rfl) rfl rfl (by kernel_rfl) (by kernel_rfl) rfl rfl rfl (by kernel_rfl) (by kernel_rfl) hX.none_ (src_rest S (i := 0) rfl hX.src (src_lt hX.src)) (by first | omega | (simp <;> omega)) fun A2 c3 z S a F => ?_)
 refine l_pure 1 (fun L => (2, .slice A2 ((([] : List Int) ++ X).length) c3) :: L) F (by kernel_rfl) fun a F => ?_
 refine l_then ?_
 refine wp_ret ?_
 have hn : ∀ Y : List Int, [] ++ Y = Y := fun Y => rfl
 exact fin F [.tmp 2] [.slice A2 ((([] : List Int) ++ X).length) c3] rfl ⟨by kernel_rfl, trivial⟩ (.slice A2 ((([] : List Int) ++ X).length) c3) rfl ⟨A2, c3, by simp, by simpa using S.pick [0, 1] (by decide)⟩
theorem clonei_any (w : World) (A : Option Addr) (c : Nat) (X : List Int) (hX : Recs 1 iC_i64 w A c X) (hl : X.length ≤ 1000) : Calls Try.prog 29 #[.slice A X.length c] w fun e w' => ∃ (A' : Option Addr) (c' : Nat), e = .returned (.slice A' X.length c') ∧ Sat w w' [rest w (· < w.heap.size), row 3 1 (.slice A' X.length c') X.length (X.flatMap iC_i64)] := by
  cases A with
  | none =>
    obtain ⟨h1, rfl⟩ := hX.none_ rfl
    obtain rfl := List.eq_nil_of_length_eq_zero h1
    exact clonei_nil w
  | some ad => exact clonei_some w ad c X hX hl
set_option maxRecDepth 100000 in
set_option maxHeartbeats 4000000 in
theorem clonef_nil (w : World) : Calls Try.prog 30 #[.slice none 0 0] w fun e w' => ∃ (A' : Option Addr) (c' : Nat), e = .returned (.slice A' 0 c') ∧ Sat w w' [rest w (· < w.heap.size), row 31 2 (.slice A' 0 c') 0 (([] : List (Int × Int)).flatMap frC)] := by
 refine enter 8 Try.func30 rfl rfl rfl fun a F => ?_
 have S := Sat.pushRest w
 refine s_reg ?_
 refine l_pure 1 (fun L => (2, .slice none 0 0) :: L) F (by kernel_rfl) fun a F => ?_
 refine l_then ?_
 refine wp_seq ?_
 refine s_reg ?_
 refine l_pure 2 (fun L => (4, .bool true) :: (3, .slice none 0 0) :: L) F (by kernel_rfl) fun a F => ?_
 refine l_then ?_
 refine c_t F rfl ?_
 refine s_reg ?_
 refine l_pure 1 (fun L => (2, .slice none 0 0) :: L) F (by kernel_rfl) fun a F => ?_
 refine l_then ?_
 refine wp_ret ?_
 refine then_r (?_)
 exact fin F [.tmp 2] [.slice none 0 0] rfl ⟨by kernel_rfl, trivial⟩ (.slice none 0 0) rfl ⟨none, 0, rfl, (S.nilRow 31 2)⟩
set_option maxRecDepth 100000 in
set_option maxHeartbeats 4000000 in
theorem clonef_some (w : World) (ad : Addr) (c : Nat) (X : List (Int × Int)) (hX : Recs 2 frC w (some ad) c X) (hl : X.length ≤ 1000) : Calls Try.prog 30 #[.slice (some ad) X.length c] w fun e w' => ∃ (A' : Option Addr) (c' : Nat), e = .returned (.slice A' X.length c') ∧ Sat w w' [rest w (· < w.heap.size), row 31 2 (.slice A' X.length c') X.length (X.flatMap frC)] := by
 refine enter 8 Try.func30 rfl rfl rfl fun a F => ?_
 have S := Sat.pushRest w
 refine s_reg ?_
 refine l_pure 1 (fun L => (2, .slice none 0 0) :: L) F (by kernel_rfl) fun a F => ?_
 refine l_then ?_
 refine wp_seq ?_
 refine s_reg ?_
 refine l_pure 2 (fun L => (4, .bool false) :: (3, .slice (some ad) X.length c) :: L) F (by kernel_rfl) fun a F => ?_
 refine l_then ?_
 refine c_f F rfl ?_
 refine wp_skip ?_
 refine then_n ?_
 refine s_reg ?_
 refine l_do F rfl rfl (op_buildSlice S _ 0 _ 31 2 frC ([] : List (Int × Int)) F rfl (by kernel_rfl) (by kernel_rfl) (by kernel_rfl) (by unfold maxLen; omega) fun b1 z S a F => ?_)
 refine l_pure 1 (fun L => (6, .slice (some ad) X.length c) :: L) F (by kernel_rfl) fun a F => ?_
 refine l_do F rfl rfl (op_append S 1 _ _ _ 31 (.agg #[.int .u64 0, .int .u64 0]) 2 16 ([] : List (Int × Int)) X frC (some ad) c F frC_len (fun _ => rfl) rfl rfl (by kernel_rfl) (by kernel_rfl) rfl rfl rfl (by kernel_rfl) (by kernel_rfl) hX.none_ (src_rest S (i := 0) rfl hX.src (src_lt hX.src)) (by first | omega | (simp <;> omega)) fun A2 c3 z S a F => ?_)
 refine l_pure 1 (fun L => (2, .slice A2 ((([] : List (Int × Int)) ++ X).length) c3) :: L) F (by kernel_rfl) fun a F => ?_
 refine l_then ?_
 refine wp_ret ?_
 have hn : ∀ Y : List (Int × Int), [] ++ Y = Y := fun Y => rfl
 exact fin F [.tmp 2] [.slice A2 ((([] : List (Int × Int)) ++ X).length) c3] rfl ⟨by kernel_rfl, trivial⟩ (.slice A2 ((([] : List (Int × Int)) ++ X).length) c3) rfl ⟨A2, c3, by simp, by simpa using S.pick [0, 1] (by decide)⟩
theorem clonef_any (w : World) (A : Option Addr) (c : Nat) (X : List (Int × Int)) (hX : Recs 2 frC w A c X) (hl : X.length ≤ 1000) : Calls Try.prog 30 #[.slice A X.length c] w fun e w' => ∃ (A' : Option Addr) (c' : Nat), e = .returned (.slice A' X.length c') ∧ Sat w w' [rest w (· < w.heap.size), row 31 2 (.slice A' X.length c') X.length (X.flatMap frC)] := by
  cases A with
  | none =>
    obtain ⟨h1, rfl⟩ := hX.none_ rfl
    obtain rfl := List.eq_nil_of_length_eq_zero h1
    exact clonef_nil w
  | some ad => exact clonef_some w ad c X hX hl
set_option maxRecDepth 100000 in
set_option maxHeartbeats 4000000 in
theorem has24_any (w : World) (G : Nat → Prop) (b : Nat) (I : Idl) (hS : Sat w w [idA b I, rest w G]) (who : Int) : Calls Try.prog 10 #[.pointer (some ⟨b, 0, none⟩), .int .i64 who] w fun e w' => e = .returned (.int .u64 (hasP I who)) ∧ Sat w w' [idA b I, rest w G] := by
 refine enter 20 Try.func10 rfl rfl rfl fun a F => ?_
 obtain ⟨Ae, ce, Af, cf, Ah, ch, r, ck, ps, hps, S⟩ := id_open hS
 refine s_reg ?_
 refine l_pure 1 (fun L => (4, .int .u64 0) :: L) F (by kernel_rfl) fun a F => ?_
 refine l_then ?_
 refine wp_seq ?_
 refine s_reg ?_
 refine l_pure 5 (fun L => (9, .int .i64 who) :: (8, .pointer (some ⟨b, 0, none⟩)) :: (7, .bool false) :: (6, .bool false) :: (5, .pointer (some ⟨b, 0, none⟩)) :: L) F (by kernel_rfl) fun a F => ?_
 cases hb1 : (inB I.has.length who) with
 | false =>
  have hno := hb1
  obtain ⟨G9, g9, hin9, hlt9, k9⟩ := S.frameB [1] (by decide) rfl
  refine l_do F rfl rfl (op_fn F (by kernel_rfl) (in24_any _ G9 b Ae I.ends.length ce Af I.free.length cf r Ah I.has.length ch who g9) ?_)
  rintro e z9 ⟨rfl, g⟩
  have S : Sat w z9 [rest w G, box b 61 [.slice Ae I.ends.length ce, .slice Af I.free.length cf, .map (some r), .slice Ah I.has.length ch], rEl Ae ce I.ends, rFl Af cf I.free, rUl Ah ch I.has, mapA r .u64 (ps.map entM) ck, bag (ps.flatMap payRows)] := k9 z9 [box b 61 [.slice Ae I.ends.length ce, .slice Af I.free.length cf, .map (some r), .slice Ah I.has.length ch]] rfl g
  clear g g9 k9 hin9 hlt9
  refine ⟨_, rfl, ?_⟩
  rw [hb1]
  intro a F
  refine l_pure 2 (fun L => (12, .bool true) :: (11, .bool true) :: L) F (by kernel_rfl) fun a F => ?_
  refine l_then ?_
  refine c_t F rfl ?_
  refine s_reg ?_
  refine l_pure 1 (fun L => (4, .int .u64 0) :: L) F (by kernel_rfl) fun a F => ?_
  refine l_then ?_
  refine wp_ret ?_
  refine then_r (?_)
  exact fin F [.tmp 4] [.int .u64 0] rfl ⟨by kernel_rfl, trivial⟩ (.int .u64 0) rfl ⟨by rw [has_no hno], (id_shut hps (by simp) (by simp) (by simp) (S.pick [0, 1, 2, 3, 4, 5, 6] (by decide)))⟩
 | true =>
  obtain ⟨un, rfl, hun⟩ := inB_t hb1
  obtain ⟨xu, hxu⟩ : ∃ xu, I.has[un]? = some xu := ⟨_, List.getElem?_eq_getElem (by omega)⟩
  obtain ⟨G9, g9, hin9, hlt9, k9⟩ := S.frameB [1] (by decide) rfl
  refine l_do F rfl rfl (op_fn F (by kernel_rfl) (in24_any _ G9 b Ae I.ends.length ce Af I.free.length cf r Ah I.has.length ch (un : Nat) g9) ?_)
  rintro e z9 ⟨rfl, g⟩
  have S : Sat w z9 [rest w G, box b 61 [.slice Ae I.ends.length ce, .slice Af I.free.length cf, .map (some r), .slice Ah I.has.length ch], rEl Ae ce I.ends, rFl Af cf I.free, rUl Ah ch I.has, mapA r .u64 (ps.map entM) ck, bag (ps.flatMap payRows)] := k9 z9 [box b 61 [.slice Ae I.ends.length ce, .slice Af I.free.length cf, .map (some r), .slice Ah I.has.length ch]] rfl g
  clear g g9 k9 hin9 hlt9
  refine ⟨_, rfl, ?_⟩
  rw [hb1]
  intro a F
  refine l_pure 2 (fun L => (12, .bool false) :: (11, .bool false) :: L) F (by kernel_rfl) fun a F => ?_
  refine l_then ?_
  refine c_f F rfl ?_
  refine wp_skip ?_
  refine then_n ?_
  refine s_reg ?_
  refine l_pure 3 (fun L => (15, .pointer (some ⟨b, 3, none⟩)) :: (14, .pointer (some ⟨b, 0, none⟩)) :: (13, .pointer (some ⟨b, 0, none⟩)) :: L) F (by kernel_rfl) fun a F => ?_
  refine l_do F rfl rfl (op_load _ _ (some ⟨b, 0, none⟩) 3 (.slice Ah I.has.length ch) F rfl (by kernel_rfl) (by kernel_rfl) (cBox S 1 rfl (j := 3) rfl) (fun a F => ?_))
  refine l_pure 1 (fun L => (17, .int .i64 (un : Nat)) :: L) F (by kernel_rfl) fun a F => ?_
  refine l_do F rfl rfl (op_index _ 23 _ _ Ah I.has.length ch un 1 .i64 F rfl (by kernel_rfl) (by kernel_rfl) (by kernel_rfl) (by kernel_rfl) (get_lt hxu) (row_some S 4 rfl (m := un) (get_lt hxu)) (fun a F => ?_))
  refine l_do F rfl rfl (op_load _ _ Ah (un * 1) (.int .u64 xu) F rfl (by kernel_rfl) (by kernel_rfl) (cRec S 4 iC_len_u64 rfl 0 hxu rfl) (fun a F => ?_))
  refine l_pure 1 (fun L => (4, .int .u64 xu) :: L) F (by kernel_rfl) fun a F => ?_
  refine l_then ?_
  refine wp_ret ?_
  exact fin F [.tmp 4] [.int .u64 xu] rfl ⟨by kernel_rfl, trivial⟩ (.int .u64 xu) rfl ⟨by rw [has_is hxu], (id_shut hps (by simp) (by simp) (by simp) (S.pick [0, 1, 2, 3, 4, 5, 6] (by decide)))⟩
set_option maxRecDepth 100000 in
set_option maxHeartbeats 4000000 in
theorem free24_any (w : World) (G : Nat → Prop) (b : Nat) (I : Idl) (ok : IOk I) (hS : Sat w w [idA b I, rest w G]) (cid who : Int) : Calls Try.prog 11 #[.pointer (some ⟨b, 0, none⟩), .int .i64 cid, .int .i64 who] w fun e w' => e = .returned (.int .u64 (freeP I cid who)) ∧ Sat w w' [idA b I, rest w G] := by
 refine enter 27 Try.func11 rfl rfl rfl fun a F => ?_
 obtain ⟨Ae, ce, Af, cf, Ah, ch, r, ck, ps, hps, S⟩ := id_open hS
 refine s_reg ?_
 refine l_pure 1 (fun L => (6, .int .u64 0) :: L) F (by kernel_rfl) fun a F => ?_
 refine l_then ?_
 refine s_reg ?_
 refine l_pure 3 (fun L => (12, .int .i64 who) :: (11, .int .i64 cid) :: (10, .pointer (some ⟨b, 0, none⟩)) :: L) F (by kernel_rfl) fun a F => ?_
 rcases side_cases24 I.ends cid who with ⟨hsd, hbad⟩ | ⟨nn, pa, qa, rfl, rfl, he, hsd⟩ | ⟨nn, pa, qa, rfl, rfl, he, hpq, hsd⟩ | ⟨nn, pa, qa, rfl, he, hw1, hw2, hsd⟩
 ·
  skip
  have hnl := ok.fl
  obtain ⟨G9, g9, hin9, hlt9, k9⟩ := S.frameB [1, 2] (by decide) rfl
  refine l_do F rfl rfl (op_fn F (by kernel_rfl) (side24_at hsd _ G9 b Ae ce Af I.free.length cf r Ah I.has.length ch g9) ?_)
  rintro e z9 ⟨rfl, g⟩
  have S : Sat w z9 [rest w G, box b 61 [.slice Ae I.ends.length ce, .slice Af I.free.length cf, .map (some r), .slice Ah I.has.length ch], rEl Ae ce I.ends, rFl Af cf I.free, rUl Ah ch I.has, mapA r .u64 (ps.map entM) ck, bag (ps.flatMap payRows)] := k9 z9 [box b 61 [.slice Ae I.ends.length ce, .slice Af I.free.length cf, .map (some r), .slice Ah I.has.length ch], rEl Ae ce I.ends] rfl g
  clear g g9 k9 hin9 hlt9
  refine ⟨_, rfl, ?_⟩
  intro a F
  refine l_pure 5 (fun L => (8, .int .i64 6) :: (7, .int .i64 0) :: (15, .int .i64 6) :: (14, .int .i64 0) :: (9, .tuple #[.int .i64 0, .int .i64 6]) :: L) F (by kernel_rfl) fun a F => ?_
  refine l_then ?_
  refine wp_seq ?_
  refine s_reg ?_
  refine l_pure 2 (fun L => (17, .bool true) :: (16, .int .i64 6) :: L) F (by kernel_rfl) fun a F => ?_
  refine l_then ?_
  refine c_t F rfl ?_
  refine s_reg ?_
  refine l_pure 1 (fun L => (6, .int .u64 0) :: L) F (by kernel_rfl) fun a F => ?_
  refine l_then ?_
  refine wp_ret ?_
  refine then_r (?_)
  exact fin F [.tmp 6] [.int .u64 0] rfl ⟨by kernel_rfl, trivial⟩ (.int .u64 0) rfl ⟨by rw [free_no (by rw [hsd]; decide)], (id_shut hps (by simp) (by simp) (by simp) (S.pick [0, 1, 2, 3, 4, 5, 6] (by decide)))⟩
 ·
  skip
  have hsm := ok.sums
  obtain ⟨hpl, hql, hpq9⟩ := ok.en _ (List.mem_of_getElem? he)
  dsimp only at hpl hql hpq9
  have hnn := (List.getElem?_eq_some_iff.1 he).1
  have hfl := ok.fl
  obtain ⟨xf, hxf⟩ : ∃ xf, I.free[nn]? = some xf := ⟨_, List.getElem?_eq_getElem (by omega)⟩
  have hx2 := sumF_one ok.fu hxf
  obtain ⟨xh, hxh⟩ : ∃ xh, I.has[pa]? = some xh := ⟨_, List.getElem?_eq_getElem (by omega)⟩
  have hx1 := sumI_one I.has pa xh ok.hu hxh
  obtain ⟨G9, g9, hin9, hlt9, k9⟩ := S.frameB [1, 2] (by decide) rfl
  refine l_do F rfl rfl (op_fn F (by kernel_rfl) (side24_at hsd _ G9 b Ae ce Af I.free.length cf r Ah I.has.length ch g9) ?_)
  rintro e z9 ⟨rfl, g⟩
  have S : Sat w z9 [rest w G, box b 61 [.slice Ae I.ends.length ce, .slice Af I.free.length cf, .map (some r), .slice Ah I.has.length ch], rEl Ae ce I.ends, rFl Af cf I.free, rUl Ah ch I.has, mapA r .u64 (ps.map entM) ck, bag (ps.flatMap payRows)] := k9 z9 [box b 61 [.slice Ae I.ends.length ce, .slice Af I.free.length cf, .map (some r), .slice Ah I.has.length ch], rEl Ae ce I.ends] rfl g
  clear g g9 k9 hin9 hlt9
  refine ⟨_, rfl, ?_⟩
  intro a F
  refine l_pure 5 (fun L => (8, .int .i64 0) :: (7, .int .i64 0) :: (15, .int .i64 0) :: (14, .int .i64 0) :: (9, .tuple #[.int .i64 0, .int .i64 0]) :: L) F (by kernel_rfl) fun a F => ?_
  refine l_then ?_
  refine wp_seq ?_
  refine s_reg ?_
  refine l_pure 2 (fun L => (17, .bool false) :: (16, .int .i64 0) :: L) F (by kernel_rfl) fun a F => ?_
  refine l_then ?_
  refine c_f F rfl ?_
  refine wp_skip ?_
  refine then_n ?_
  refine s_reg ?_
  refine l_pure 3 (fun L => (20, .pointer (some ⟨b, 1, none⟩)) :: (19, .pointer (some ⟨b, 0, none⟩)) :: (18, .pointer (some ⟨b, 0, none⟩)) :: L) F (by kernel_rfl) fun a F => ?_
  refine l_do F rfl rfl (op_load _ _ (some ⟨b, 0, none⟩) 1 (.slice Af I.free.length cf) F rfl (by kernel_rfl) (by kernel_rfl) (cBox S 1 rfl (j := 1) rfl) (fun a F => ?_))
  refine l_pure 2 (fun L => (23, .int .i64 0) :: (22, .int .i64 (nn : Nat)) :: L) F (by kernel_rfl) fun a F => ?_
  refine l_do F rfl rfl (op_index _ 31 _ _ Af I.free.length cf nn 2 .i64 F rfl (by kernel_rfl) (by kernel_rfl) (by kernel_rfl) (by kernel_rfl) (get_lt hxf) (row_some S 3 rfl (m := nn) (get_lt hxf)) (fun a F => ?_))
  refine l_do F rfl rfl (op_indexArr _ 23 _ _ Af (nn * 2) 2 0 1 .i64 F rfl (by kernel_rfl) (by kernel_rfl) (by kernel_rfl) (by kernel_rfl) (by decide) (row_some S 3 rfl (m := nn) (get_lt hxf)) (fun a F => ?_))
  refine l_do F rfl rfl (op_load _ _ Af (nn * 2) (.int .u64 xf.1) F rfl (by kernel_rfl) (by kernel_rfl) (cRec S 3 frC_len rfl 0 hxf rfl) (fun a F => ?_))
  refine l_pure 1 (fun L => (6, .int .u64 xf.1) :: L) F (by kernel_rfl) fun a F => ?_
  refine l_then ?_
  refine wp_ret ?_
  exact fin F [.tmp 6] [.int .u64 xf.1] rfl ⟨by kernel_rfl, trivial⟩ (.int .u64 xf.1) rfl ⟨by rw [free_is (s := 0) hsd hxf]; rfl, (id_shut hps (by simp) (by simp) (by simp) (S.pick [0, 1, 2, 3, 4, 5, 6] (by decide)))⟩
 ·
  skip
  have hsm := ok.sums
  obtain ⟨hpl, hql, hpq9⟩ := ok.en _ (List.mem_of_getElem? he)
  dsimp only at hpl hql hpq9
  have hnn := (List.getElem?_eq_some_iff.1 he).1
  have hfl := ok.fl
  obtain ⟨xf, hxf⟩ : ∃ xf, I.free[nn]? = some xf := ⟨_, List.getElem?_eq_getElem (by omega)⟩
  have hx2 := sumF_one ok.fu hxf
  obtain ⟨xh, hxh⟩ : ∃ xh, I.has[qa]? = some xh := ⟨_, List.getElem?_eq_getElem (by omega)⟩
  have hx1 := sumI_one I.has qa xh ok.hu hxh
  obtain ⟨G9, g9, hin9, hlt9, k9⟩ := S.frameB [1, 2] (by decide) rfl
  refine l_do F rfl rfl (op_fn F (by kernel_rfl) (side24_at hsd _ G9 b Ae ce Af I.free.length cf r Ah I.has.length ch g9) ?_)
  rintro e z9 ⟨rfl, g⟩
  have S : Sat w z9 [rest w G, box b 61 [.slice Ae I.ends.length ce, .slice Af I.free.length cf, .map (some r), .slice Ah I.has.length ch], rEl Ae ce I.ends, rFl Af cf I.free, rUl Ah ch I.has, mapA r .u64 (ps.map entM) ck, bag (ps.flatMap payRows)] := k9 z9 [box b 61 [.slice Ae I.ends.length ce, .slice Af I.free.length cf, .map (some r), .slice Ah I.has.length ch], rEl Ae ce I.ends] rfl g
  clear g g9 k9 hin9 hlt9
  refine ⟨_, rfl, ?_⟩
  intro a F
  refine l_pure 5 (fun L => (8, .int .i64 0) :: (7, .int .i64 1) :: (15, .int .i64 0) :: (14, .int .i64 1) :: (9, .tuple #[.int .i64 1, .int .i64 0]) :: L) F (by kernel_rfl) fun a F => ?_
  refine l_then ?_
  refine wp_seq ?_
  refine s_reg ?_
  refine l_pure 2 (fun L => (17, .bool false) :: (16, .int .i64 0) :: L) F (by kernel_rfl) fun a F => ?_
  refine l_then ?_
  refine c_f F rfl ?_
  refine wp_skip ?_
  refine then_n ?_
  refine s_reg ?_
  refine l_pure 3 (fun L => (20, .pointer (some ⟨b, 1, none⟩)) :: (19, .pointer (some ⟨b, 0, none⟩)) :: (18, .pointer (some ⟨b, 0, none⟩)) :: L) F (by kernel_rfl) fun a F => ?_
  refine l_do F rfl rfl (op_load _ _ (some ⟨b, 0, none⟩) 1 (.slice Af I.free.length cf) F rfl (by kernel_rfl) (by kernel_rfl) (cBox S 1 rfl (j := 1) rfl) (fun a F => ?_))
  refine l_pure 2 (fun L => (23, .int .i64 1) :: (22, .int .i64 (nn : Nat)) :: L) F (by kernel_rfl) fun a F => ?_
  refine l_do F rfl rfl (op_index _ 31 _ _ Af I.free.length cf nn 2 .i64 F rfl (by kernel_rfl) (by kernel_rfl) (by kernel_rfl) (by kernel_rfl) (get_lt hxf) (row_some S 3 rfl (m := nn) (get_lt hxf)) (fun a F => ?_))
  refine l_do F rfl rfl (op_indexArr _ 23 _ _ Af (nn * 2) 2 1 1 .i64 F rfl (by kernel_rfl) (by kernel_rfl) (by kernel_rfl) (by kernel_rfl) (by decide) (row_some S 3 rfl (m := nn) (get_lt hxf)) (fun a F => ?_))
  refine l_do F rfl rfl (op_load _ _ Af (nn * 2 + 1) (.int .u64 xf.2) F rfl (by kernel_rfl) (by kernel_rfl) (cRec S 3 frC_len rfl 1 hxf rfl) (fun a F => ?_))
  refine l_pure 1 (fun L => (6, .int .u64 xf.2) :: L) F (by kernel_rfl) fun a F => ?_
  refine l_then ?_
  refine wp_ret ?_
  exact fin F [.tmp 6] [.int .u64 xf.2] rfl ⟨by kernel_rfl, trivial⟩ (.int .u64 xf.2) rfl ⟨by rw [free_is (s := 1) hsd hxf]; rfl, (id_shut hps (by simp) (by simp) (by simp) (S.pick [0, 1, 2, 3, 4, 5, 6] (by decide)))⟩
 ·
  skip
  have hsm := ok.sums
  obtain ⟨hpl, hql, hpq9⟩ := ok.en _ (List.mem_of_getElem? he)
  dsimp only at hpl hql hpq9
  have hnn := (List.getElem?_eq_some_iff.1 he).1
  have hfl := ok.fl
  obtain ⟨xf, hxf⟩ : ∃ xf, I.free[nn]? = some xf := ⟨_, List.getElem?_eq_getElem (by omega)⟩
  have hx2 := sumF_one ok.fu hxf
  obtain ⟨G9, g9, hin9, hlt9, k9⟩ := S.frameB [1, 2] (by decide) rfl
  refine l_do F rfl rfl (op_fn F (by kernel_rfl) (side24_at hsd _ G9 b Ae ce Af I.free.length cf r Ah I.has.length ch g9) ?_)
  rintro e z9 ⟨rfl, g⟩
  have S : Sat w z9 [rest w G, box b 61 [.slice Ae I.ends.length ce, .slice Af I.free.length cf, .map (some r), .slice Ah I.has.length ch], rEl Ae ce I.ends, rFl Af cf I.free, rUl Ah ch I.has, mapA r .u64 (ps.map entM) ck, bag (ps.flatMap payRows)] := k9 z9 [box b 61 [.slice Ae I.ends.length ce, .slice Af I.free.length cf, .map (some r), .slice Ah I.has.length ch], rEl Ae ce I.ends] rfl g
  clear g g9 k9 hin9 hlt9
  refine ⟨_, rfl, ?_⟩
  intro a F
  refine l_pure 5 (fun L => (8, .int .i64 1) :: (7, .int .i64 0) :: (15, .int .i64 1) :: (14, .int .i64 0) :: (9, .tuple #[.int .i64 0, .int .i64 1]) :: L) F (by kernel_rfl) fun a F => ?_
  refine l_then ?_
  refine wp_seq ?_
  refine s_reg ?_
  refine l_pure 2 (fun L => (17, .bool true) :: (16, .int .i64 1) :: L) F (by kernel_rfl) fun a F => ?_
  refine l_then ?_
  refine c_t F rfl ?_
  refine s_reg ?_
  refine l_pure 1 (fun L => (6, .int .u64 0) :: L) F (by kernel_rfl) fun a F => ?_
  refine l_then ?_
  refine wp_ret ?_
  refine then_r (?_)
  exact fin F [.tmp 6] [.int .u64 0] rfl ⟨by kernel_rfl, trivial⟩ (.int .u64 0) rfl ⟨by rw [free_no (by rw [hsd]; decide)], (id_shut hps (by simp) (by simp) (by simp) (S.pick [0, 1, 2, 3, 4, 5, 6] (by decide)))⟩
set_option maxRecDepth 100000 in
set_option maxHeartbeats 4000000 in
theorem state24_any (w : World) (G : Nat → Prop) (b : Nat) (I : Idl) (hS : Sat w w [idA b I, rest w G]) (cid : Int) : Calls Try.prog 20 #[.pointer (some ⟨b, 0, none⟩), .int .u64 cid] w fun e w' => e = .returned (.tuple #[.int .i64 (stateP I cid).1, .bool (stateP I cid).2]) ∧ Sat w w' [idA b I, rest w G] := by
 refine enter 22 Try.func20 rfl rfl rfl fun a F => ?_
 obtain ⟨Ae, ce, Af, cf, Ah, ch, r, ck, ps, hps, S⟩ := id_open hS
 refine s_reg ?_
 refine l_pure 2 (fun L => (5, .bool false) :: (4, .int .i64 0) :: L) F (by kernel_rfl) fun a F => ?_
 refine l_then ?_
 refine wp_seq ?_
 refine s_reg ?_
 refine l_pure 2 (fun L => (9, .bool false) :: (8, .pointer (some ⟨b, 0, none⟩)) :: L) F (by kernel_rfl) fun a F => ?_
 refine l_then ?_
 refine c_f F rfl ?_
 refine wp_skip ?_
 refine then_n ?_
 refine s_reg ?_
 refine l_pure 3 (fun L => (13, .pointer (some ⟨b, 2, none⟩)) :: (12, .pointer (some ⟨b, 0, none⟩)) :: (11, .pointer (some ⟨b, 0, none⟩)) :: L) F (by kernel_rfl) fun a F => ?_
 refine l_do F rfl rfl (op_load _ _ (some ⟨b, 0, none⟩) 2 (.map (some r)) F rfl (by kernel_rfl) (by kernel_rfl) (cBox S 1 rfl (j := 2) rfl) (fun a F => ?_))
 refine l_pure 1 (fun L => (15, .int .u64 cid) :: L) F (by kernel_rfl) fun a F => ?_
 rcases look_cases hps cid with ⟨hf, hg⟩ | ⟨im, mp, hf, hmp, hlm, hid, hg⟩
 ·
  skip
  refine l_do F rfl rfl (op_lookup S 5 _ 23 66 _ _ true (.agg #[.int .i64 0, .slice none 0 0, .slice none 0 0, .slice none 0 0]) .u64 .u64 cid (.tuple #[.agg #[.int .i64 0, .slice none 0 0, .slice none 0 0, .slice none 0 0], .bool false]) F rfl rfl (by kernel_rfl) (by kernel_rfl) (by kernel_rfl) (by kernel_rfl) (by kernel_rfl) (by rw [hg]; rfl) (fun a F => ?_))
  refine l_pure 3 (fun L => (18, .bool false) :: (17, .agg #[.int .i64 0, .slice none 0 0, .slice none 0 0, .slice none 0 0]) :: (10, .tuple #[.agg #[.int .i64 0, .slice none 0 0, .slice none 0 0, .slice none 0 0], .bool false]) :: L) F (by kernel_rfl) fun a F => ?_
  refine l_do F rfl rfl (op_alloc S _ (.agg #[.int .i64 0, .slice none 0 0, .slice none 0 0, .slice none 0 0]) rfl (by kernel_rfl) fun b1 z S a F => ?_)
  refine l_do F rfl rfl (op_storeB S 7 _ _ _ b1 0 (.agg #[.int .i64 0, .slice none 0 0, .slice none 0 0, .slice none 0 0]) F rfl rfl (by kernel_rfl) (by kernel_rfl) (by kernel_rfl) (by kernel_rfl) (by kernel_rfl) fun z S a F => ?_)
  refine l_pure 1 (fun L => (7, .bool false) :: L) F (by kernel_rfl) fun a F => ?_
  refine l_then ?_
  refine s_reg ?_
  refine l_pure 1 (fun L => (19, .pointer (some ⟨b1, 0, none⟩)) :: L) F (by kernel_rfl) fun a F => ?_
  refine l_do F rfl rfl (op_load _ _ (some ⟨b1, 0, none⟩) 0 (.int .i64 0) F rfl (by kernel_rfl) (by kernel_rfl) (cBox S 7 rfl (j := 0) rfl) (fun a F => ?_))
  refine l_pure 3 (fun L => (5, .bool false) :: (4, .int .i64 0) :: (21, .bool false) :: L) F (by kernel_rfl) fun a F => ?_
  refine l_then ?_
  refine wp_ret ?_
  exact fin F [.tmp 4, .tmp 5] [.int .i64 0, .bool false] rfl ⟨by kernel_rfl, by kernel_rfl, trivial⟩ (.tuple #[.int .i64 0, .bool false]) rfl ⟨by rw [state_no hf], (id_shut hps (by simp) (by simp) (by simp) (S.pick [0, 1, 2, 3, 4, 5, 6] (by decide)))⟩
 ·
  skip
  refine l_do F rfl rfl (op_lookup S 5 _ 23 66 _ _ true (.agg #[.int .i64 0, .slice none 0 0, .slice none 0 0, .slice none 0 0]) .u64 .u64 cid (.tuple #[.agg #[.int .i64 mp.p.state, .slice mp.A1 ((edgesL mp.p.legs).length) mp.c1, .slice mp.A2 ((sidesL mp.p.legs).length) mp.c2, .slice mp.A3 ((amsL mp.p.legs).length) mp.c3], .bool true]) F rfl rfl (by kernel_rfl) (by kernel_rfl) (by kernel_rfl) (by kernel_rfl) (by kernel_rfl) (by rw [hg]; rfl) (fun a F => ?_))
  refine l_pure 3 (fun L => (18, .bool true) :: (17, .agg #[.int .i64 mp.p.state, .slice mp.A1 ((edgesL mp.p.legs).length) mp.c1, .slice mp.A2 ((sidesL mp.p.legs).length) mp.c2, .slice mp.A3 ((amsL mp.p.legs).length) mp.c3]) :: (10, .tuple #[.agg #[.int .i64 mp.p.state, .slice mp.A1 ((edgesL mp.p.legs).length) mp.c1, .slice mp.A2 ((sidesL mp.p.legs).length) mp.c2, .slice mp.A3 ((amsL mp.p.legs).length) mp.c3], .bool true]) :: L) F (by kernel_rfl) fun a F => ?_
  refine l_do F rfl rfl (op_alloc S _ (.agg #[.int .i64 0, .slice none 0 0, .slice none 0 0, .slice none 0 0]) rfl (by kernel_rfl) fun b2 z S a F => ?_)
  refine l_do F rfl rfl (op_storeB S 7 _ _ _ b2 0 (.agg #[.int .i64 mp.p.state, .slice mp.A1 ((edgesL mp.p.legs).length) mp.c1, .slice mp.A2 ((sidesL mp.p.legs).length) mp.c2, .slice mp.A3 ((amsL mp.p.legs).length) mp.c3]) F rfl rfl (by kernel_rfl) (by kernel_rfl) (by kernel_rfl) (by kernel_rfl) (by kernel_rfl) fun z S a F => ?_)
  refine l_pure 1 (fun L => (7, .bool true) :: L) F (by kernel_rfl) fun a F => ?_
  refine l_then ?_
  refine s_reg ?_
  refine l_pure 1 (fun L => (19, .pointer (some ⟨b2, 0, none⟩)) :: L) F (by kernel_rfl) fun a F => ?_
  refine l_do F rfl rfl (op_load _ _ (some ⟨b2, 0, none⟩) 0 (.int .i64 mp.p.state) F rfl (by kernel_rfl) (by kernel_rfl) (cBox S 7 rfl (j := 0) rfl) (fun a F => ?_))
  refine l_pure 3 (fun L => (5, .bool true) :: (4, .int .i64 mp.p.state) :: (21, .bool true) :: L) F (by kernel_rfl) fun a F => ?_
  refine l_then ?_
  refine wp_ret ?_
  exact fin F [.tmp 4, .tmp 5] [.int .i64 mp.p.state, .bool true] rfl ⟨by kernel_rfl, by kernel_rfl, trivial⟩ (.tuple #[.int .i64 mp.p.state, .bool true]) rfl ⟨by rw [state_is hf hlm], (id_shut hps (by simp) (by simp) (by simp) (S.pick [0, 1, 2, 3, 4, 5, 6] (by decide)))⟩
set_option maxRecDepth 100000 in
set_option maxHeartbeats 4000000 in
theorem held24_any (w : World) (G : Nat → Prop) (b : Nat) (I : Idl) (ok : IOk I) (hS : Sat w w [idA b I, rest w G]) : Calls Try.prog 17 #[.pointer (some ⟨b, 0, none⟩)] w fun e w' => e = .returned (.int .u64 (heldP I.pays)) ∧ Sat w w' [idA b I, rest w G] := by
 refine enter 34 Try.func17 rfl rfl rfl fun a F => ?_
 obtain ⟨Ae, ce, Af, cf, Ah, ch, r, ck, ps, hps, S⟩ := id_open hS
 have hsm := ok.sums
 refine s_reg ?_
 refine l_pure 1 (fun L => (2, .int .u64 0) :: L) F (by kernel_rfl) fun a F => ?_
 refine l_then ?_
 refine s_reg ?_
 refine l_pure 1 (fun L => (3, .int .u64 0) :: L) F (by kernel_rfl) fun a F => ?_
 refine l_then ?_
 refine wp_seq ?_
 refine s_reg ?_
 refine l_pure 2 (fun L => (9, .bool false) :: (8, .pointer (some ⟨b, 0, none⟩)) :: L) F (by kernel_rfl) fun a F => ?_
 refine l_then ?_
 refine c_f F rfl ?_
 refine wp_skip ?_
 refine then_n ?_
 refine wp_seq ?_
 refine s_reg ?_
 refine l_pure 3 (fun L => (12, .pointer (some ⟨b, 2, none⟩)) :: (11, .pointer (some ⟨b, 0, none⟩)) :: (10, .pointer (some ⟨b, 0, none⟩)) :: L) F (by kernel_rfl) fun a F => ?_
 refine l_do F rfl rfl (op_load _ _ (some ⟨b, 0, none⟩) 2 (.map (some r)) F rfl (by kernel_rfl) (by kernel_rfl) (cBox S 1 rfl (j := 2) rfl) (fun a F => ?_))
 refine l_do F rfl rfl (op_range S 5 _ 23 66 _ F rfl rfl (by kernel_rfl) (by kernel_rfl) fun b1 z S a F => ?_)
 refine l_then ?_
 refine wp_block ?_
 refine wp_loop_m (fun m a z => ∃ (seen : List Nat) (sm : Int), m = ps.length - seen.length ∧ (SeenOk ps seen) ∧ (sm = heldSeen ps seen) ∧ Fr a 34 [(3, .int .u64 sm), (14, .pointer (some ⟨b1, 0, none⟩))] ∧ Sat w z [rest w G, box b 61 [.slice Ae I.ends.length ce, .slice Af I.free.length cf, .map (some r), .slice Ah I.has.length ch], rEl Ae ce I.ends, rFl Af cf I.free, rUl Ah ch I.has, mapA r .u64 (ps.map entM) ck, bag (ps.flatMap payRows), iterA b1 r ck seen ck]) _ ⟨([] : List Nat), 0, rfl, (seen_nil ps), (heldSeen_nil ps).symm, F.sub ⟨by kernel_rfl, by kernel_rfl, trivial⟩, S⟩ ?_
 rintro m a z ⟨seen, sm, hm, hf2, hf3, F, S⟩
 have hse := hf2
 have hsv := hf3
 refine s_reg ?_
 refine l_do F rfl rfl (op_next S 7 5 _ F rfl rfl rfl (by kernel_rfl) (ent_old hps) (Nat.le_refl _) ?_ ?_)
 ·
  intro hend a F
  refine l_pure 1 (fun L => (16, .bool false) :: L) F (by kernel_rfl) fun a F => ?_
  refine l_then ?_
  refine wp_seq ?_
  refine c_f F rfl ?_
  refine wp_exit ?_
  refine then_x ?_
  refine then_x ?_
  refine inb_x ?_
  refine then_n ?_
  refine s_reg ?_
  refine l_pure 2 (fun L => (2, .int .u64 sm) :: (33, .int .u64 sm) :: L) F (by kernel_rfl) fun a F => ?_
  refine l_then ?_
  refine wp_ret ?_
  exact fin F [.tmp 2] [.int .u64 sm] rfl ⟨by kernel_rfl, trivial⟩ (.int .u64 sm) rfl ⟨by rw [hsv, heldSeen_all hps hend], (id_shut hps (by simp) (by simp) (by simp) (S.pick [0, 1, 2, 3, 4, 5, 6] (by decide)))⟩
 ·
  rintro e9 he9 hq9 z S a F
  obtain ⟨mp, hmp, rfl⟩ := List.mem_map.1 he9
  have hq9 : mp.st ∉ seen := hq9
  obtain ⟨hst, hll, hlg⟩ := ok.lg mp.p (pay_in hps hmp)
  obtain ⟨hl1, hl2, hl3⟩ := legs_len mp.p.legs
  have S : Sat w z [rest w G, box b 61 [.slice Ae I.ends.length ce, .slice Af I.free.length cf, .map (some r), .slice Ah I.has.length ch], rEl Ae ce I.ends, rFl Af cf I.free, rUl Ah ch I.has, mapA r .u64 (ps.map entM) ck, bag (ps.flatMap payRows), iterA b1 r ck (seen ++ [(entM mp).2.2]) ck] := S
  refine l_pure 1 (fun L => (16, .bool true) :: L) F (by kernel_rfl) fun a F => ?_
  refine l_then ?_
  refine wp_seq ?_
  refine c_t F rfl ?_
  refine wp_skip ?_
  refine then_n ?_
  refine wp_block ?_
  refine s_reg ?_
  refine l_do F rfl rfl (op_entry (e := (entM mp)) S 7 5 _ F rfl rfl rfl (by kernel_rfl) (List.mem_map_of_mem hmp) (ent_nd hps) (fun a F => ?_))
  refine l_pure 1 (fun L => (18, .agg #[.int .i64 mp.p.state, .slice mp.A1 ((edgesL mp.p.legs).length) mp.c1, .slice mp.A2 ((sidesL mp.p.legs).length) mp.c2, .slice mp.A3 ((amsL mp.p.legs).length) mp.c3]) :: L) F (by kernel_rfl) fun a F => ?_
  refine l_do F rfl rfl (op_alloc S _ (.agg #[.int .i64 0, .slice none 0 0, .slice none 0 0, .slice none 0 0]) rfl (by kernel_rfl) fun b4 z S a F => ?_)
  refine l_do F rfl rfl (op_storeB S 8 _ _ _ b4 0 (.agg #[.int .i64 mp.p.state, .slice mp.A1 ((edgesL mp.p.legs).length) mp.c1, .slice mp.A2 ((sidesL mp.p.legs).length) mp.c2, .slice mp.A3 ((amsL mp.p.legs).length) mp.c3]) F rfl rfl (by kernel_rfl) (by kernel_rfl) (by kernel_rfl) (by kernel_rfl) (by kernel_rfl) fun z S a F => ?_)
  refine l_then ?_
  refine wp_seq ?_
  refine s_reg ?_
  refine l_pure 1 (fun L => (19, .pointer (some ⟨b4, 0, none⟩)) :: L) F (by kernel_rfl) fun a F => ?_
  refine l_do F rfl rfl (op_load _ _ (some ⟨b4, 0, none⟩) 0 (.int .i64 mp.p.state) F rfl (by kernel_rfl) (by kernel_rfl) (cBox S 8 rfl (j := 0) rfl) (fun a F => ?_))
  by_cases ht5 : (mp.p.state : Int) = (0 : Int)
  ·
   skip
   have hs0 := ht5
   refine l_do F rfl rfl (op_pure F (v0 := .bool ((mp.p.state : Int) != (0 : Int))) (v := .bool false) (by kernel_rfl) (neqF ht5) fun a F => ?_)
   refine l_then ?_
   refine c_f F rfl ?_
   refine wp_skip ?_
   refine then_n ?_
   refine s_reg ?_
   refine l_pure 1 (fun L => (22, .pointer (some ⟨b4, 3, none⟩)) :: L) F (by kernel_rfl) fun a F => ?_
   refine l_do F rfl rfl (op_load _ _ (some ⟨b4, 0, none⟩) 3 (.slice mp.A3 ((amsL mp.p.legs).length) mp.c3) F rfl (by kernel_rfl) (by kernel_rfl) (cBox S 8 rfl (j := 3) rfl) (fun a F => ?_))
   refine l_pure 2 (fun L => (25, .int .i64 0) :: (24, .int .i64 ((amsL mp.p.legs).length : Nat)) :: L) F (by kernel_rfl) fun a F => ?_
   refine l_then ?_
   refine wp_block ?_
   refine wp_loop_m (fun m a z => ∃ (k : Nat) (sv : Int), m = (amsL mp.p.legs).length - k ∧ (k ≤ (amsL mp.p.legs).length) ∧ (sv = heldSeen ps seen + amTo mp.p.legs k) ∧ Fr a 34 [(3, .int .u64 sv), (14, .pointer (some ⟨b1, 0, none⟩)), (23, .slice mp.A3 ((amsL mp.p.legs).length) mp.c3), (24, .int .i64 ((amsL mp.p.legs).length : Nat)), (25, .int .i64 (k : Nat))] ∧ Sat w z [rest w G, box b 61 [.slice Ae I.ends.length ce, .slice Af I.free.length cf, .map (some r), .slice Ah I.has.length ch], rEl Ae ce I.ends, rFl Af cf I.free, rUl Ah ch I.has, mapA r .u64 (ps.map entM) ck, bag (ps.flatMap payRows), iterA b1 r ck (seen ++ [(entM mp).2.2]) ck, box b4 66 [.int .i64 mp.p.state, .slice mp.A1 ((edgesL mp.p.legs).length) mp.c1, .slice mp.A2 ((sidesL mp.p.legs).length) mp.c2, .slice mp.A3 ((amsL mp.p.legs).length) mp.c3]]) _ ⟨0, sm, rfl, Nat.zero_le _, (by rw [hsv, show amTo mp.p.legs 0 = 0 from rfl]; omega), F.sub ⟨by kernel_rfl, by kernel_rfl, by kernel_rfl, by kernel_rfl, by kernel_rfl, trivial⟩, S⟩ ?_
   rintro m a z ⟨k, sv, hm, hf6, hf7, F, S⟩
   have hsv2 := hf7
   have hr0 := held_room ok hps hmp hq9 hs0 k
   refine s_reg ?_
   by_cases ht8 : ((k : Nat) : Int) < (((amsL mp.p.legs).length : Nat) : Int)
   ·
    skip
    obtain ⟨am9, ham9⟩ : ∃ am9, (amsL mp.p.legs)[k]? = some am9 := ⟨_, List.getElem?_eq_getElem (by omega)⟩
    have hsn9 := amTo_snoc ham9
    have hr1 := held_room ok hps hmp hq9 hs0 (k + 1)
    refine l_do F rfl rfl (op_pure F (v0 := .bool (decide (((k : Nat) : Int) < (((amsL mp.p.legs).length : Nat) : Int)))) (v := .bool true) (by kernel_rfl) (lssT ht8) fun a F => ?_)
    refine l_then ?_
    refine wp_seq ?_
    refine c_t F rfl ?_
    refine wp_skip ?_
    refine then_n ?_
    refine wp_seq ?_
    refine wp_block ?_
    refine s_reg ?_
    refine l_do F rfl rfl (op_index _ 23 _ _ mp.A3 ((amsL mp.p.legs).length) mp.c3 k 1 .i64 F rfl (by kernel_rfl) (by kernel_rfl) (by kernel_rfl) (by kernel_rfl) (get_lt ham9) (recs_some (pay_ams S 6 rfl hmp (by omega)) (m := k) (get_lt ham9)) (fun a F => ?_))
    refine l_do F rfl rfl (op_load _ _ mp.A3 (k * 1) (.int .u64 am9) F rfl (by kernel_rfl) (by kernel_rfl) (recs_cell iC_len_u64 (pay_ams S 6 rfl hmp (by omega)) 0 ham9 rfl) (fun a F => ?_))
    refine l_pure 1 (fun L => (7, .int .u64 am9) :: L) F (by kernel_rfl) fun a F => ?_
    refine l_then ?_
    refine wp_region_list ?_
    refine l_pure 2 (fun L => (30, .int .u64 am9) :: (29, .int .u64 sv) :: L) F (by kernel_rfl) fun a F => ?_
    refine l_do F rfl rfl (op_pure F (v0 := .int .u64 (IntKind.wrap .u64 (sv + am9))) (v := .int .u64 (sv + am9)) (by kernel_rfl) (wr_u64 (by omega) (by omega)) fun a F => ?_)
    refine l_pure 1 (fun L => (3, .int .u64 (sv + am9)) :: L) F (by kernel_rfl) fun a F => ?_
    refine l_nil (inb_n ?_)
    refine then_n ?_
    refine wp_region_list ?_
    refine l_do F rfl rfl (op_pure F (v0 := .int .i64 (IntKind.wrap .i64 ((k : Nat) + 1))) (v := .int .i64 (k + 1 : Nat)) (by kernel_rfl) (wrn_i64 (by omega) (by omega) (by omega)) fun a F => ?_)
    refine l_pure 1 (fun L => (25, .int .i64 (k + 1 : Nat)) :: L) F (by kernel_rfl) fun a F => ?_
    refine l_then ?_
    exact ⟨_, (by omega), k + 1, (sv + am9), rfl, (by omega), (by omega), F.sub ⟨by kernel_rfl, by kernel_rfl, by kernel_rfl, by kernel_rfl, by kernel_rfl, trivial⟩, S⟩
   ·
    skip
    have hk : k = (amsL mp.p.legs).length := by omega
    refine l_do F rfl rfl (op_pure F (v0 := .bool (decide (((k : Nat) : Int) < (((amsL mp.p.legs).length : Nat) : Int)))) (v := .bool false) (by kernel_rfl) (lssF ht8) fun a F => ?_)
    refine l_then ?_
    refine wp_seq ?_
    refine c_f F rfl ?_
    refine wp_exit ?_
    refine then_x ?_
    refine then_x ?_
    refine inb_x ?_
    refine inb_n ?_
    refine then_n ?_
    have S : Sat w z [rest w G, box b 61 [.slice Ae I.ends.length ce, .slice Af I.free.length cf, .map (some r), .slice Ah I.has.length ch], rEl Ae ce I.ends, rFl Af cf I.free, rUl Ah ch I.has, mapA r .u64 (ps.map entM) ck, bag (ps.flatMap payRows), iterA b1 r ck (seen ++ [mp.st]) ck, box b4 66 [.int .i64 mp.p.state, .slice mp.A1 ((edgesL mp.p.legs).length) mp.c1, .slice mp.A2 ((sidesL mp.p.legs).length) mp.c2, .slice mp.A3 ((amsL mp.p.legs).length) mp.c3]] := S
    exact ⟨_, (by have h9 := seen_lt hse hmp hq9; omega), (seen ++ [mp.st]), sv, rfl, (seen_more hse hmp hq9), (by rw [hsv2, hk, amTo_all]; exact (held_room ok hps hmp hq9 hs0 0).2.2), F.sub ⟨by kernel_rfl, by kernel_rfl, trivial⟩, (S.pick [0, 1, 2, 3, 4, 5, 6, 7] (by decide))⟩
  ·
   skip
   refine l_do F rfl rfl (op_pure F (v0 := .bool ((mp.p.state : Int) != (0 : Int))) (v := .bool true) (by kernel_rfl) (neqT ht5) fun a F => ?_)
   refine l_then ?_
   refine c_t F rfl ?_
   refine wp_exit ?_
   refine then_x ?_
   refine inb_x ?_
   refine then_n ?_
   have S : Sat w z [rest w G, box b 61 [.slice Ae I.ends.length ce, .slice Af I.free.length cf, .map (some r), .slice Ah I.has.length ch], rEl Ae ce I.ends, rFl Af cf I.free, rUl Ah ch I.has, mapA r .u64 (ps.map entM) ck, bag (ps.flatMap payRows), iterA b1 r ck (seen ++ [mp.st]) ck, box b4 66 [.int .i64 mp.p.state, .slice mp.A1 ((edgesL mp.p.legs).length) mp.c1, .slice mp.A2 ((sidesL mp.p.legs).length) mp.c2, .slice mp.A3 ((amsL mp.p.legs).length) mp.c3]] := S
   exact ⟨_, (by have h9 := seen_lt hse hmp hq9; omega), (seen ++ [mp.st]), sm, rfl, (seen_more hse hmp hq9), (by rw [hsv]; exact held_skip hps hmp hq9 ht5), F.sub ⟨by kernel_rfl, by kernel_rfl, trivial⟩, (S.pick [0, 1, 2, 3, 4, 5, 6, 7] (by decide))⟩
end Go.Proofs.Ytecgpkjigbhneaa
