/- Walk over the program's logbook: the first record. -/
import Derived.Test.YtidcdfilfccigaaIn17
import Derived.Test.YtidcdfilfccigaaLogP
namespace Go.Proofs.Ytidcdfilfccigaa
set_option linter.unusedVariables false
set_option linter.unusedSimpArgs false
set_option linter.unnecessarySimpa false
open Go Go.RowKit

/-- A part of bytes that can be read. -/
structure PartOf (A : Option Addr) (c : Nat) (X : Bs) (B : Option Addr) (d : Nat) (Y : Bs) : Prop where
  recs : ∀ w, Recs 1 yC w A c X → Recs 1 yC w B d Y
  cap : X.length ≤ c → Y.length ≤ d
  blk : ∀ b, B = some b → ∃ a, A = some a ∧ a.block = b.block
  len : Y.length ≤ X.length
theorem PartOf.refl (A : Option Addr) (c : Nat) (X : Bs) : PartOf A c X A c X := ⟨fun _ h => h, fun h => h, fun b h => ⟨b, h, rfl⟩, Nat.le_refl _⟩
theorem PartOf.trans {A B C : Option Addr} {c d e : Nat} {X Y Z : Bs} (h : PartOf A c X B d Y) (h2 : PartOf B d Y C e Z) : PartOf A c X C e Z :=
  ⟨fun w hw => h2.recs w (h.recs w hw), fun hc => h2.cap (h.cap hc), fun b hb => by obtain ⟨a, ha, e1⟩ := h2.blk b hb; obtain ⟨a', ha', e2⟩ := h.blk a ha; exact ⟨a', ha', e2.trans e1⟩, Nat.le_trans h2.len h.len⟩
theorem subA_blk {A : Option Addr} {c m k : Nat} {b : Addr} (h : subA A c m k = some b) : ∃ a, A = some a ∧ a.block = b.block := by
  unfold subA at h
  split at h
  · exact ⟨b, h, rfl⟩
  · cases A with
    | none => cases h
    | some a =>
      simp only [Option.map_some, Option.some.injEq] at h
      refine ⟨a, rfl, ?_⟩
      rw [← h]; unfold Addr.add; split <;> rfl
theorem PartOf.drop {A : Option Addr} {c : Nat} {X : Bs} (m : Nat) (hc : X.length ≤ c) : PartOf A c X (subA A c m 1) (c - m) (X.drop m) :=
  ⟨fun _ h => Recs.drop h m hc, fun _ => by rw [List.length_drop]; omega, fun _ h => subA_blk h, by rw [List.length_drop]; omega⟩
theorem PartOf.take {A : Option Addr} {c : Nat} {X : Bs} (q : Nat) : PartOf A c X A c (X.take q) :=
  ⟨fun _ h => Recs.take h q, fun h => by rw [List.length_take]; omega, fun b h => ⟨b, h, rfl⟩, by rw [List.length_take]; omega⟩
theorem getD_at {X : Bs} {i : Nat} (h : i < X.length) : X[i]? = some (X.getD i 0) := by simp [List.getD, List.getElem?_eq_getElem h]
theorem take4 {X : Bs} (h : ¬ X.length < 4) : X.take 4 = [X.getD 0 0, X.getD 1 0, X.getD 2 0, X.getD 3 0] := by
  match X, h with
  | x0 :: x1 :: x2 :: x3 :: Y, _ => rfl
  | [], h => simp at h
  | [_], h => simp at h
  | [_, _], h => simp at h
  | [_, _, _], h => simp at h
theorem body_at {X : Bs} {n i : Nat} (h : 4 + n ≤ X.length) (hi : i < n) : ((X.take (4 + n)).drop 4)[i]? = some (X.getD (4 + i) 0) := by
  rw [List.getElem?_drop, List.getElem?_take, if_pos (by omega)]
  exact getD_at (by omega)
theorem body_len {X : Bs} {n : Nat} (h : 4 + n ≤ X.length) : (bodyP X n).length = n := by
  unfold bodyP; rw [List.length_drop, List.length_take]; omega
theorem of4_any (w : World) (A : Option Addr) (c : Nat) (X : Bs) (hX : Recs 1 yC w A c X) (hX4 : ¬ X.length < 4) : Calls Try.prog 62 #[.slice A 4 c] w fun e w' => ∃ b A' c', e = .returned (pt b 0) ∧ Sat w w' [rest w (· < w.heap.size), box b 118 [.slice A' 4 c', .int .i64 0], row 5 1 (.slice A' 4 c') 4 (([X.getD 0 0, X.getD 1 0, X.getD 2 0, X.getD 3 0] : Bs).flatMap yC)] := by
  have h := of_any2 w A c (X.take 4) (Recs.take hX 4) (by rw [List.length_take]; omega) (n := 4) (by rw [List.length_take]; omega)
  rw [take4 hX4] at h
  exact h
theorem four4_any (w : World) (G : Nat → Prop) (b : Nat) (Ax : Option Addr) (cx : Nat) (hcx : 4 ≤ cx) (x0 x1 x2 x3 : UInt8) (hS : Sat w w [box b 118 [.slice Ax 4 cx, .int .i64 0], row 5 1 (.slice Ax 4 cx) 4 (([x0, x1, x2, x3] : Bs).flatMap yC), rest w G]) : Calls Try.prog 63 #[pt b 0] w fun e w' => e = .returned (.int .u32 ((n4 x0 x1 x2 x3 : Nat) : Int)) ∧ Sat w w' [box b 118 [.slice (subA Ax cx 4 1) (4 - 4) (cx - 4), .int .i64 0], row 5 1 (.slice Ax 4 cx) 4 (([x0, x1, x2, x3] : Bs).flatMap yC), rest w G] := by
  have h := ifour_any w G b Ax cx hcx x0 x1 x2 x3 hS
  have e : n4 x0 x1 x2 x3 = (((0 * 256 + x0.toNat) * 256 + x1.toNat) * 256 + x2.toNat) * 256 + x3.toNat := by unfold n4; omega
  rw [e]
  exact h
/-- What the first record is, as the program says. -/
def NextE (Ap : Option Addr) (cp : Nat) (X : Bs) (e : Ending) : Prop := match nextP X with
  | none => e = .returned (.tuple #[.int .u8 0, strV [], .slice none 0 0, .slice none 0 0, .bool false])
  | some (k, n, v, q) => ∃ Av cv Aq cq, e = .returned (.tuple #[.int .u8 (k.toNat : Nat), strV n, .slice Av v.length cv, .slice Aq q.length cq, .bool true]) ∧ PartOf Ap cp X Av cv v ∧ PartOf Ap cp X Aq cq q
theorem next_no {Ap : Option Addr} {cp : Nat} {X : Bs} (h : X.length < 4 ∨ n4p X < 2 ∨ X.length < n4p X + 5 ∨ ¬ X.getD (4 + n4p X) 0 = 165 ∨ n4p X < 2 + (X.getD 5 0).toNat) : NextE Ap cp X (.returned (.tuple #[.int .u8 0, strV [], .slice none 0 0, .slice none 0 0, .bool false])) := by
  have e : nextP X = none := by
    unfold nextP
    split
    · rfl
    · split
      · rfl
      · split
        · rfl
        · rename_i h1 h2 h3
          rcases h with h | h | h | h | h
          · exact absurd h h1
          · exact absurd (.inl h) h2
          · exact absurd (.inr (.inl h)) h2
          · exact absurd (.inr (.inr h)) h2
          · exact absurd h h3
  unfold NextE
  rw [e]
theorem next_yes {Ap : Option Addr} {cp : Nat} {X : Bs} (hc : X.length ≤ cp) (h1 : ¬ X.length < 4) (h2 : ¬ n4p X < 2) (h3 : ¬ X.length < n4p X + 5) (h4 : X.getD (4 + n4p X) 0 = 165) (h5 : ¬ n4p X < 2 + (X.getD 5 0).toNat) {n1 n2 : Nat} (e1 : n1 = n4p X - (2 + (X.getD 5 0).toNat)) (e2 : n2 = X.length - (5 + n4p X)) :
    NextE Ap cp X (.returned (.tuple #[.int .u8 ((X.getD 4 0).toNat : Nat), strV ((((X.take (4 + n4p X)).drop 4).take (2 + (X.getD 5 0).toNat)).drop 2), .slice (subA (subA Ap cp 4 1) (cp - 4) (2 + (X.getD 5 0).toNat) 1) n1 (cp - 4 - (2 + (X.getD 5 0).toNat)), .slice (subA Ap cp (5 + n4p X) 1) n2 (cp - (5 + n4p X)), .bool true])) := by
  have e : nextP X = some (X.getD 4 0, ((bodyP X (n4p X)).take (2 + (X.getD 5 0).toNat)).drop 2, (bodyP X (n4p X)).drop (2 + (X.getD 5 0).toNat), X.drop (5 + n4p X)) := by
    unfold nextP
    rw [if_neg h1, if_neg (by rintro (h | h | h) <;> contradiction), if_neg h5]
  unfold NextE
  rw [e]
  have hb := body_len (X := X) (n := n4p X) (by omega)
  have p1 : PartOf Ap cp X (subA Ap cp 4 1) (cp - 4) (bodyP X (n4p X)) := by
    unfold bodyP
    exact (PartOf.take (4 + n4p X)).trans (PartOf.drop 4 (by rw [List.length_take]; omega))
  refine ⟨_, _, _, _, ?_, p1.trans (PartOf.drop (2 + (X.getD 5 0).toNat) (by omega)), PartOf.drop (5 + n4p X) hc⟩
  rw [List.length_drop, List.length_drop, hb, e1, e2]
  rfl
set_option maxRecDepth 100000 in
set_option maxHeartbeats 4000000 in
theorem next_any (w : World) (Ap : Option Addr) (cp : Nat) (X : Bs) (hX : Recs 1 yC w Ap cp X) (hcx : X.length ≤ cp) (hl : X.length ≤ 1000000) : Calls Try.prog 61 #[.slice Ap X.length cp] w fun e w' => NextE Ap cp X e ∧ Below w.heap.size w w' := by
 refine enter 65 Try.func61 rfl rfl rfl fun a F => ?_
 have S := Sat.pushRest w
 have hb5 := (X.getD 5 0).toNat_lt
 refine s_reg ?_
 refine l_pk 5 (fun L => (6, .bool false) :: (5, .slice none 0 0) :: (4, .slice none 0 0) :: (3, strV ([] : Bs)) :: (2, .int .u8 0) :: L) F fun a F => ?_
 refine l_then ?_
 refine wp_seq ?_
 refine s_reg ?_
 refine l_pk 2 (fun L => (11, .int .i64 (X.length : Nat)) :: (10, .slice Ap X.length cp) :: L) F fun a F => ?_
 by_cases ht1 : ((X.length : Nat) : Int) < (4 : Int)
 ·
  refine l_do F rfl rfl (op_pk F (v0 := .bool (decide (((X.length : Nat) : Int) < (4 : Int)))) (v := .bool true) (lssT ht1) fun a F => ?_)
  refine l_then ?_
  refine c_t F rfl ?_
  refine s_reg ?_
  refine l_pk 5 (fun L => (6, .bool false) :: (5, .slice none 0 0) :: (4, .slice none 0 0) :: (3, strV ([] : Bs)) :: (2, .int .u8 0) :: L) F fun a F => ?_
  refine l_then ?_
  refine wp_ret ?_
  refine then_r (?_)
  exact fin F [.tmp 2, .tmp 3, .tmp 4, .tmp 5, .tmp 6] [.int .u8 0, strV ([] : Bs), .slice none 0 0, .slice none 0 0, .bool false] rfl ⟨by kernel_rfl, by kernel_rfl, by kernel_rfl, by kernel_rfl, by kernel_rfl, trivial⟩ (.tuple #[.int .u8 0, strV ([] : Bs), .slice none 0 0, .slice none 0 0, .bool false]) rfl ⟨next_no (by first | (left; omega) | (right; left; omega) | (right; right; left; omega) | (right; right; right; left; assumption) | (right; right; right; right; omega)), S.below (i := 0) rfl⟩
 have hX4 : ¬ X.length < 4 := by omega
 have hN := n4p_lt X
 refine l_do F rfl rfl (op_pk F (v0 := .bool (decide (((X.length : Nat) : Int) < (4 : Int)))) (v := .bool false) (lssF ht1) fun a F => ?_)
 refine l_then ?_
 refine c_f F rfl ?_
 refine wp_skip ?_
 refine then_n ?_
 refine s_reg ?_
 refine l_pk 1 (fun L => (13, .slice Ap X.length cp) :: L) F fun a F => ?_
 refine l_do F rfl rfl (op_sliceH _ 5 _ _ Ap X.length cp 4 1 .i64 F rfl (by kernel_rfl) (by kernel_rfl) (by kernel_rfl) (by kernel_rfl) (by omega) (fun a F => ?_))
 refine l_do F rfl rfl (op_fn F (by kernel_rfl) (of4_any _ Ap cp X (hX.mono (src_rest S (i := 0) rfl hX.src (src_lt hX.src))) hX4) ?_)
 rintro e z ⟨bi, Ai, ci, rfl, g⟩
 have S := S.pushThings g
 have hci : 4 ≤ ci := own_cap (S.rowOf (i := 2) rfl)
 refine ⟨_, rfl, ?_⟩
 intro a F
 obtain ⟨G9, g9, hin9, hlt9, k9⟩ := S.frameB [1, 2] (by decide) rfl
 refine l_do F rfl rfl (op_fn F (by kernel_rfl) (four4_any _ G9 bi Ai ci hci (X.getD 0 0) (X.getD 1 0) (X.getD 2 0) (X.getD 3 0) g9) ?_)
 rintro e z9 ⟨rfl, g⟩
 have S : Sat w z9 [rest w (· < w.heap.size), box bi 118 [.slice (subA Ai ci 4 1) (4 - 4) (ci - 4), .int .i64 0], row 5 1 (.slice Ai 4 ci) 4 ([X.getD 0 0, X.getD 1 0, X.getD 2 0, X.getD 3 0].flatMap yC)] := k9 z9 [box bi 118 [.slice (subA Ai ci 4 1) (4 - 4) (ci - 4), .int .i64 0], row 5 1 (.slice Ai 4 ci) 4 ([X.getD 0 0, X.getD 1 0, X.getD 2 0, X.getD 3 0].flatMap yC)] rfl g
 clear g g9 k9 hin9 hlt9
 refine ⟨_, rfl, ?_⟩
 intro a F
 refine l_do F rfl rfl (op_pk F (v0 := .int .u64 (IntKind.wrap .u64 (n4p X : Nat))) (v := .int .u64 (n4p X : Nat)) (wr_u64 (by omega) (by omega)) fun a F => ?_)
 refine l_pk 1 (fun L => (7, .int .u64 (n4p X : Nat)) :: L) F fun a F => ?_
 refine l_then ?_
 refine wp_seq ?_
 refine s_reg ?_
 refine l_pk 1 (fun L => (18, .int .u64 (n4p X : Nat)) :: L) F fun a F => ?_
 by_cases ht2 : ((n4p X : Nat) : Int) < (2 : Int)
 ·
  refine l_do F rfl rfl (op_pk F (v0 := .bool (decide (((n4p X : Nat) : Int) < (2 : Int)))) (v := .bool true) (lssT ht2) fun a F => ?_)
  refine l_pk 16 (fun L => (35, .bool true) :: (34, undef) :: (33, undef) :: (32, undef) :: (31, undef) :: (30, undef) :: (29, undef) :: (28, .bool true) :: (27, .bool true) :: (26, undef) :: (25, undef) :: (24, undef) :: (23, undef) :: (22, undef) :: (21, undef) :: (20, .bool true) :: L) F fun a F => ?_
  refine l_then ?_
  refine c_t F rfl ?_
  refine s_reg ?_
  refine l_pk 5 (fun L => (6, .bool false) :: (5, .slice none 0 0) :: (4, .slice none 0 0) :: (3, strV ([] : Bs)) :: (2, .int .u8 0) :: L) F fun a F => ?_
  refine l_then ?_
  refine wp_ret ?_
  refine then_r (?_)
  exact fin F [.tmp 2, .tmp 3, .tmp 4, .tmp 5, .tmp 6] [.int .u8 0, strV ([] : Bs), .slice none 0 0, .slice none 0 0, .bool false] rfl ⟨by kernel_rfl, by kernel_rfl, by kernel_rfl, by kernel_rfl, by kernel_rfl, trivial⟩ (.tuple #[.int .u8 0, strV ([] : Bs), .slice none 0 0, .slice none 0 0, .bool false]) rfl ⟨next_no (by first | (left; omega) | (right; left; omega) | (right; right; left; omega) | (right; right; right; left; assumption) | (right; right; right; right; omega)), S.below (i := 0) rfl⟩
 refine l_do F rfl rfl (op_pk F (v0 := .bool (decide (((n4p X : Nat) : Int) < (2 : Int)))) (v := .bool false) (lssF ht2) fun a F => ?_)
 refine l_pk 2 (fun L => (21, .int .u64 (n4p X : Nat)) :: (20, .bool false) :: L) F fun a F => ?_
 refine l_do F rfl rfl (op_pk F (v0 := .int .u64 (IntKind.wrap .u64 ((n4p X : Nat) + 5))) (v := .int .u64 (n4p X + 5 : Nat)) (wrn_u64 (by omega) (by omega) (by omega)) fun a F => ?_)
 refine l_pk 2 (fun L => (24, .int .i64 (X.length : Nat)) :: (23, .slice Ap X.length cp) :: L) F fun a F => ?_
 refine l_do F rfl rfl (op_pk F (v0 := .int .u64 (IntKind.wrap .u64 (X.length : Nat))) (v := .int .u64 (X.length : Nat)) (wr_u64 (by omega) (by omega)) fun a F => ?_)
 by_cases ht3 : ((X.length : Nat) : Int) < ((n4p X + 5 : Nat) : Int)
 ·
  refine l_do F rfl rfl (op_pk F (v0 := .bool (decide (((n4p X + 5 : Nat) : Int) > ((X.length : Nat) : Int)))) (v := .bool true) (gtrT ht3) fun a F => ?_)
  refine l_pk 9 (fun L => (35, .bool true) :: (34, undef) :: (33, undef) :: (32, undef) :: (31, undef) :: (30, undef) :: (29, undef) :: (28, .bool true) :: (27, .bool true) :: L) F fun a F => ?_
  refine l_then ?_
  refine c_t F rfl ?_
  refine s_reg ?_
  refine l_pk 5 (fun L => (6, .bool false) :: (5, .slice none 0 0) :: (4, .slice none 0 0) :: (3, strV ([] : Bs)) :: (2, .int .u8 0) :: L) F fun a F => ?_
  refine l_then ?_
  refine wp_ret ?_
  refine then_r (?_)
  exact fin F [.tmp 2, .tmp 3, .tmp 4, .tmp 5, .tmp 6] [.int .u8 0, strV ([] : Bs), .slice none 0 0, .slice none 0 0, .bool false] rfl ⟨by kernel_rfl, by kernel_rfl, by kernel_rfl, by kernel_rfl, by kernel_rfl, trivial⟩ (.tuple #[.int .u8 0, strV ([] : Bs), .slice none 0 0, .slice none 0 0, .bool false]) rfl ⟨next_no (by first | (left; omega) | (right; left; omega) | (right; right; left; omega) | (right; right; right; left; assumption) | (right; right; right; right; omega)), S.below (i := 0) rfl⟩
 refine l_do F rfl rfl (op_pk F (v0 := .bool (decide (((n4p X + 5 : Nat) : Int) > ((X.length : Nat) : Int)))) (v := .bool false) (gtrF ht3) fun a F => ?_)
 refine l_pk 4 (fun L => (30, .int .u64 (n4p X : Nat)) :: (29, .slice Ap X.length cp) :: (28, .bool false) :: (27, .bool false) :: L) F fun a F => ?_
 refine l_do F rfl rfl (op_pk F (v0 := .int .u64 (IntKind.wrap .u64 (4 + (n4p X : Nat)))) (v := .int .u64 (4 + (n4p X) : Nat)) (wrn_u64 (by omega) (by omega) (by omega)) fun a F => ?_)
 refine l_do F rfl rfl (op_index _ 5 _ _ Ap X.length cp (4 + (n4p X)) 1 .u64 F rfl (by kernel_rfl) (by kernel_rfl) (by kernel_rfl) (by kernel_rfl) (by omega) (recs_some hX (m := 4 + (n4p X)) (by omega)) (fun a F => ?_))
 refine l_do F rfl rfl (op_ldk Ap ((4 + (n4p X)) * 1) (.int .u8 ((X.getD (4 + (n4p X)) 0).toNat : Nat)) F rfl (cOld S 0 yC_len hX rfl 0 (getD_at (by omega)) rfl) (fun a F => ?_))
 by_cases ht4 : (((X.getD (4 + (n4p X)) 0).toNat : Nat) : Int) = (165 : Int)
 ·
  have hy165 : X.getD (4 + n4p X) 0 = 165 := UInt8.toNat_inj.1 (by have e9 : (165 : UInt8).toNat = 165 := rfl; omega)
  refine l_do F rfl rfl (op_pk F (v0 := .bool ((((X.getD (4 + (n4p X)) 0).toNat : Nat) : Int) != (165 : Int))) (v := .bool false) (neqF ht4) fun a F => ?_)
  refine l_pk 1 (fun L => (35, .bool false) :: L) F fun a F => ?_
  refine l_then ?_
  refine c_f F rfl ?_
  refine wp_skip ?_
  refine then_n ?_
  refine s_reg ?_
  refine l_pk 2 (fun L => (37, .int .u64 (n4p X : Nat)) :: (36, .slice Ap X.length cp) :: L) F fun a F => ?_
  refine l_do F rfl rfl (op_pk F (v0 := .int .u64 (IntKind.wrap .u64 (4 + (n4p X : Nat)))) (v := .int .u64 (4 + (n4p X) : Nat)) (wrn_u64 (by omega) (by omega) (by omega)) fun a F => ?_)
  refine l_do F rfl rfl (op_sliceLH _ 5 _ _ _ Ap X.length cp 4 (4 + (n4p X)) 1 .i64 .u64 F rfl (by kernel_rfl) (by kernel_rfl) (by kernel_rfl) (by kernel_rfl) (by kernel_rfl) (by omega) (by omega) (fun a F => ?_))
  refine l_pk 1 (fun L => (8, .slice (subA Ap cp 4 1) ((4 + (n4p X)) - 4) (cp - 4)) :: L) F fun a F => ?_
  refine l_then ?_
  refine s_reg ?_
  refine l_pk 1 (fun L => (40, .slice (subA Ap cp 4 1) ((4 + (n4p X)) - 4) (cp - 4)) :: L) F fun a F => ?_
  refine l_do F rfl rfl (op_index _ 5 _ _ (subA Ap cp 4 1) ((4 + (n4p X)) - 4) (cp - 4) 1 1 .i64 F rfl (by kernel_rfl) (by kernel_rfl) (by kernel_rfl) (by kernel_rfl) (by omega) (recs_some (Recs.drop (Recs.take (hX.mono (src_rest S (i := 0) rfl hX.src (src_lt hX.src))) (4 + (n4p X))) 4 (Nat.le_trans (List.length_take_le _ _) (by first | omega | (simp only [List.length_drop, List.length_take]; omega)))) (m := 1) (by simp only [List.length_drop, List.length_take]; omega)) (fun a F => ?_))
  refine l_do F rfl rfl (op_ldk (subA Ap cp 4 1) (1 * 1) (.int .u8 ((X.getD 5 0).toNat : Nat)) F rfl (recs_cell yC_len (Recs.drop (Recs.take (hX.mono (src_rest S (i := 0) rfl hX.src (src_lt hX.src))) (4 + (n4p X))) 4 (Nat.le_trans (List.length_take_le _ _) (by first | omega | (simp only [List.length_drop, List.length_take]; omega)))) 0 (body_at (i := 1) (by omega) (by omega)) rfl) (fun a F => ?_))
  refine l_do F rfl rfl (op_pk F (v0 := .int .i64 (IntKind.wrap .i64 ((X.getD 5 0).toNat : Nat))) (v := .int .i64 ((X.getD 5 0).toNat : Nat)) (wr_i64 (by omega) (by omega)) fun a F => ?_)
  refine l_pk 1 (fun L => (9, .int .i64 ((X.getD 5 0).toNat : Nat)) :: L) F fun a F => ?_
  refine l_then ?_
  refine wp_seq ?_
  refine s_reg ?_
  refine l_pk 1 (fun L => (44, .int .i64 ((X.getD 5 0).toNat : Nat)) :: L) F fun a F => ?_
  refine l_do F rfl rfl (op_pk F (v0 := .int .i64 (IntKind.wrap .i64 (2 + ((X.getD 5 0).toNat : Nat)))) (v := .int .i64 (2 + ((X.getD 5 0).toNat) : Nat)) (wrn_i64 (by omega) (by omega) (by omega)) fun a F => ?_)
  refine l_pk 2 (fun L => (47, .int .i64 ((4 + (n4p X)) - 4 : Nat)) :: (46, .slice (subA Ap cp 4 1) ((4 + (n4p X)) - 4) (cp - 4)) :: L) F fun a F => ?_
  by_cases ht5 : (((4 + (n4p X)) - 4 : Nat) : Int) < ((2 + ((X.getD 5 0).toNat) : Nat) : Int)
  ·
   refine l_do F rfl rfl (op_pk F (v0 := .bool (decide (((2 + ((X.getD 5 0).toNat) : Nat) : Int) > (((4 + (n4p X)) - 4 : Nat) : Int)))) (v := .bool true) (gtrT ht5) fun a F => ?_)
   refine l_then ?_
   refine c_t F rfl ?_
   refine s_reg ?_
   refine l_pk 5 (fun L => (6, .bool false) :: (5, .slice none 0 0) :: (4, .slice none 0 0) :: (3, strV ([] : Bs)) :: (2, .int .u8 0) :: L) F fun a F => ?_
   refine l_then ?_
   refine wp_ret ?_
   refine then_r (?_)
   exact fin F [.tmp 2, .tmp 3, .tmp 4, .tmp 5, .tmp 6] [.int .u8 0, strV ([] : Bs), .slice none 0 0, .slice none 0 0, .bool false] rfl ⟨by kernel_rfl, by kernel_rfl, by kernel_rfl, by kernel_rfl, by kernel_rfl, trivial⟩ (.tuple #[.int .u8 0, strV ([] : Bs), .slice none 0 0, .slice none 0 0, .bool false]) rfl ⟨next_no (by first | (left; omega) | (right; left; omega) | (right; right; left; omega) | (right; right; right; left; assumption) | (right; right; right; right; omega)), S.below (i := 0) rfl⟩
  refine l_do F rfl rfl (op_pk F (v0 := .bool (decide (((2 + ((X.getD 5 0).toNat) : Nat) : Int) > (((4 + (n4p X)) - 4 : Nat) : Int)))) (v := .bool false) (gtrF ht5) fun a F => ?_)
  refine l_then ?_
  refine c_f F rfl ?_
  refine wp_skip ?_
  refine then_n ?_
  refine wp_seq ?_
  refine region_gx (fun D => fun (_ : Unit) => [rest w (· < w.heap.size), box bi 118 [.slice (subA Ai ci 4 1) (4 - 4) (ci - 4), .int .i64 0], row 5 1 (.slice Ai 4 ci) 4 ([X.getD 0 0, X.getD 1 0, X.getD 2 0, X.getD 3 0].flatMap yC)]) (fun (_ : Unit) => [.slice (subA Ap cp 4 1) ((4 + (n4p X)) - 4) (cp - 4), ptrA (subA Ap cp 4 1) (0 * 1), .int .u8 ((X.getD 4 0).toNat : Nat), .slice (subA Ap cp 4 1) ((4 + (n4p X)) - 4) (cp - 4), .int .i64 ((X.getD 5 0).toNat : Nat), .int .i64 (2 + ((X.getD 5 0).toNat) : Nat), .slice (subA (subA Ap cp 4 1) (cp - 4) 2 1) ((2 + ((X.getD 5 0).toNat)) - 2) ((cp - 4) - 2), strV ((((X.take (4 + (n4p X))).drop 4).take (2 + ((X.getD 5 0).toNat))).drop 2), .slice (subA Ap cp 4 1) ((4 + (n4p X)) - 4) (cp - 4), .int .i64 ((X.getD 5 0).toNat : Nat), .int .i64 (2 + ((X.getD 5 0).toNat) : Nat), .slice (subA (subA Ap cp 4 1) (cp - 4) (2 + ((X.getD 5 0).toNat)) 1) (((4 + (n4p X)) - 4) - (2 + ((X.getD 5 0).toNat))) ((cp - 4) - (2 + ((X.getD 5 0).toNat))), .slice Ap X.length cp, .int .u64 (n4p X : Nat), .int .u64 (5 + (n4p X) : Nat), .slice (subA Ap cp (5 + (n4p X)) 1) (X.length - (5 + (n4p X))) (cp - (5 + (n4p X))), .int .u8 ((X.getD 4 0).toNat : Nat), strV ((((X.take (4 + (n4p X))).drop 4).take (2 + ((X.getD 5 0).toNat))).drop 2), .slice (subA (subA Ap cp 4 1) (cp - 4) (2 + ((X.getD 5 0).toNat)) 1) (((4 + (n4p X)) - 4) - (2 + ((X.getD 5 0).toNat))) ((cp - 4) - (2 + ((X.getD 5 0).toNat))), .slice (subA Ap cp (5 + (n4p X)) 1) (X.length - (5 + (n4p X))) (cp - (5 + (n4p X))), .bool true]) [(1, [], [2]), (2, [1], []), (5, [], [6, 7]), (6, [5], [7]), (7, [5, 6], []), (10, [], [11]), (11, [10], []), (14, [], [15]), (15, [14], [])] () rfl (by kernel_rfl) (by kernel_rfl) F S.drew ?_ ?_ ?_ ?_ ?_
  · rintro ⟨⟩; rfl
  · rintro ⟨⟩; kernel_rfl
  ·
   intro D D' x h
   cases x
   rfl
  ·
   refine ⟨?_, ?_⟩
   ·
    refine ⟨_, rfl, rfl, by kernel_rfl, ?_⟩
    rintro D ⟨⟩ a z S F
    refine ⟨by kernel_rfl, ?_⟩
    exact op_index _ 5 _ _ (subA Ap cp 4 1) ((4 + (n4p X)) - 4) (cp - 4) 0 1 .i64 F rfl (by kernel_rfl) (by kernel_rfl) (by kernel_rfl) (by kernel_rfl) (by omega) (recs_some (Recs.drop (Recs.take (hX.mono (src_rest S (i := 0) rfl hX.src (src_lt hX.src))) (4 + (n4p X))) 4 (Nat.le_trans (List.length_take_le _ _) (by first | omega | (simp only [List.length_drop, List.length_take]; omega)))) (m := 0) (by simp only [List.length_drop, List.length_take]; omega)) (⟨(), rfl, (SameB.refl _ _ rfl), S⟩)
   refine ⟨?_, ?_⟩
   ·
    refine ⟨_, rfl, rfl, by kernel_rfl, ?_⟩
    rintro D ⟨⟩ a z S F
    refine ⟨by kernel_rfl, ?_⟩
    exact op_ldk (subA Ap cp 4 1) (0 * 1) (.int .u8 ((X.getD 4 0).toNat : Nat)) F rfl (recs_cell yC_len (Recs.drop (Recs.take (hX.mono (src_rest S (i := 0) rfl hX.src (src_lt hX.src))) (4 + (n4p X))) 4 (Nat.le_trans (List.length_take_le _ _) (by first | omega | (simp only [List.length_drop, List.length_take]; omega)))) 0 (body_at (i := 0) (by omega) (by omega)) rfl) (⟨(), rfl, (SameB.refl _ _ rfl), S⟩)
   refine ⟨?_, ?_⟩
   ·
    refine ⟨_, rfl, rfl, by kernel_rfl, ?_⟩
    rintro D ⟨⟩ a z S F
    refine ⟨by kernel_rfl, ?_⟩
    exact op_pk F (v0 := .int .i64 (IntKind.wrap .i64 (2 + ((X.getD 5 0).toNat : Nat)))) (v := .int .i64 (2 + ((X.getD 5 0).toNat) : Nat)) (wrn_i64 (by omega) (by omega) (by omega)) ⟨(), rfl, (SameB.refl _ _ rfl), S⟩
   refine ⟨?_, ?_⟩
   ·
    refine ⟨_, rfl, rfl, by kernel_rfl, ?_⟩
    rintro D ⟨⟩ a z S F
    refine ⟨by kernel_rfl, ?_⟩
    exact op_sliceLH _ 5 _ _ _ (subA Ap cp 4 1) ((4 + (n4p X)) - 4) (cp - 4) 2 (2 + ((X.getD 5 0).toNat)) 1 .i64 .i64 F rfl (by kernel_rfl) (by kernel_rfl) (by kernel_rfl) (by kernel_rfl) (by kernel_rfl) (by omega) (by omega) (⟨(), rfl, (SameB.refl _ _ rfl), S⟩)
   refine ⟨?_, ?_⟩
   ·
    refine ⟨_, rfl, rfl, by kernel_rfl, ?_⟩
    rintro D ⟨⟩ a z S F
    refine ⟨by kernel_rfl, ?_⟩
    exact op_tostrN (N := (2 + ((X.getD 5 0).toNat)) - 2) (Recs.drop (Recs.take (Recs.drop (Recs.take (hX.mono (src_rest S (i := 0) rfl hX.src (src_lt hX.src))) (4 + (n4p X))) 4 (Nat.le_trans (List.length_take_le _ _) (by first | omega | (simp only [List.length_drop, List.length_take]; omega)))) (2 + ((X.getD 5 0).toNat))) 2 (Nat.le_trans (List.length_take_le _ _) (by first | omega | (simp only [List.length_drop, List.length_take]; omega)))) (by simp only [List.length_drop, List.length_take]; omega) _ 5 _ _ F rfl (by kernel_rfl) (by kernel_rfl) (by kernel_rfl) (by kernel_rfl) (⟨(), rfl, (SameB.refl _ _ rfl), S⟩)
   refine ⟨?_, ?_⟩
   ·
    refine ⟨_, rfl, rfl, by kernel_rfl, ?_⟩
    rintro D ⟨⟩ a z S F
    refine ⟨by kernel_rfl, ?_⟩
    exact op_pk F (v0 := .int .i64 (IntKind.wrap .i64 (2 + ((X.getD 5 0).toNat : Nat)))) (v := .int .i64 (2 + ((X.getD 5 0).toNat) : Nat)) (wrn_i64 (by omega) (by omega) (by omega)) ⟨(), rfl, (SameB.refl _ _ rfl), S⟩
   refine ⟨?_, ?_⟩
   ·
    refine ⟨_, rfl, rfl, by kernel_rfl, ?_⟩
    rintro D ⟨⟩ a z S F
    refine ⟨by kernel_rfl, ?_⟩
    exact op_sliceN _ 5 _ _ (subA Ap cp 4 1) ((4 + (n4p X)) - 4) (cp - 4) (2 + ((X.getD 5 0).toNat)) 1 .i64 F rfl (by kernel_rfl) (by kernel_rfl) (by kernel_rfl) (by kernel_rfl) (by omega) (⟨(), rfl, (SameB.refl _ _ rfl), S⟩)
   refine ⟨?_, ?_⟩
   ·
    refine ⟨_, rfl, rfl, by kernel_rfl, ?_⟩
    rintro D ⟨⟩ a z S F
    refine ⟨by kernel_rfl, ?_⟩
    exact op_pk F (v0 := .int .u64 (IntKind.wrap .u64 (5 + (n4p X : Nat)))) (v := .int .u64 (5 + (n4p X) : Nat)) (wrn_u64 (by omega) (by omega) (by omega)) ⟨(), rfl, (SameB.refl _ _ rfl), S⟩
   refine ⟨?_, ?_⟩
   ·
    refine ⟨_, rfl, rfl, by kernel_rfl, ?_⟩
    rintro D ⟨⟩ a z S F
    refine ⟨by kernel_rfl, ?_⟩
    exact op_sliceN _ 5 _ _ Ap X.length cp (5 + (n4p X)) 1 .u64 F rfl (by kernel_rfl) (by kernel_rfl) (by kernel_rfl) (by kernel_rfl) (by omega) (⟨(), rfl, (SameB.refl _ _ rfl), S⟩)
   trivial
  rintro ⟨⟩ a z F S
  have F := F.subk (l := [(2, .int .u8 ((X.getD 4 0).toNat : Nat)), (3, strV ((((X.take (4 + (n4p X))).drop 4).take (2 + ((X.getD 5 0).toNat))).drop 2)), (4, .slice (subA (subA Ap cp 4 1) (cp - 4) (2 + ((X.getD 5 0).toNat)) 1) (((4 + (n4p X)) - 4) - (2 + ((X.getD 5 0).toNat))) ((cp - 4) - (2 + ((X.getD 5 0).toNat)))), (5, .slice (subA Ap cp (5 + (n4p X)) 1) (X.length - (5 + (n4p X))) (cp - (5 + (n4p X)))), (6, .bool true)])
  have S : Sat w z [rest w (· < w.heap.size), box bi 118 [.slice (subA Ai ci 4 1) (4 - 4) (ci - 4), .int .i64 0], row 5 1 (.slice Ai 4 ci) 4 ([X.getD 0 0, X.getD 1 0, X.getD 2 0, X.getD 3 0].flatMap yC)] := S
  refine then_n ?_
  refine wp_ret ?_
  exact fin F [.tmp 2, .tmp 3, .tmp 4, .tmp 5, .tmp 6] [.int .u8 ((X.getD 4 0).toNat : Nat), strV ((((X.take (4 + (n4p X))).drop 4).take (2 + ((X.getD 5 0).toNat))).drop 2), .slice (subA (subA Ap cp 4 1) (cp - 4) (2 + ((X.getD 5 0).toNat)) 1) (((4 + (n4p X)) - 4) - (2 + ((X.getD 5 0).toNat))) ((cp - 4) - (2 + ((X.getD 5 0).toNat))), .slice (subA Ap cp (5 + (n4p X)) 1) (X.length - (5 + (n4p X))) (cp - (5 + (n4p X))), .bool true] rfl ⟨by kernel_rfl, by kernel_rfl, by kernel_rfl, by kernel_rfl, by kernel_rfl, trivial⟩ (.tuple #[.int .u8 ((X.getD 4 0).toNat : Nat), strV ((((X.take (4 + (n4p X))).drop 4).take (2 + ((X.getD 5 0).toNat))).drop 2), .slice (subA (subA Ap cp 4 1) (cp - 4) (2 + ((X.getD 5 0).toNat)) 1) (((4 + (n4p X)) - 4) - (2 + ((X.getD 5 0).toNat))) ((cp - 4) - (2 + ((X.getD 5 0).toNat))), .slice (subA Ap cp (5 + (n4p X)) 1) (X.length - (5 + (n4p X))) (cp - (5 + (n4p X))), .bool true]) rfl ⟨next_yes hcx hX4 (by omega) (by omega) hy165 (by omega) (by omega) (by omega), S.below (i := 0) rfl⟩
 have hy165 : ¬ X.getD (4 + n4p X) 0 = 165 := fun h9 => by rw [h9] at ht4; exact absurd rfl ht4
 refine l_do F rfl rfl (op_pk F (v0 := .bool ((((X.getD (4 + (n4p X)) 0).toNat : Nat) : Int) != (165 : Int))) (v := .bool true) (neqT ht4) fun a F => ?_)
 refine l_pk 1 (fun L => (35, .bool true) :: L) F fun a F => ?_
 refine l_then ?_
 refine c_t F rfl ?_
 refine s_reg ?_
 refine l_pk 5 (fun L => (6, .bool false) :: (5, .slice none 0 0) :: (4, .slice none 0 0) :: (3, strV ([] : Bs)) :: (2, .int .u8 0) :: L) F fun a F => ?_
 refine l_then ?_
 refine wp_ret ?_
 refine then_r (?_)
 exact fin F [.tmp 2, .tmp 3, .tmp 4, .tmp 5, .tmp 6] [.int .u8 0, strV ([] : Bs), .slice none 0 0, .slice none 0 0, .bool false] rfl ⟨by kernel_rfl, by kernel_rfl, by kernel_rfl, by kernel_rfl, by kernel_rfl, trivial⟩ (.tuple #[.int .u8 0, strV ([] : Bs), .slice none 0 0, .slice none 0 0, .bool false]) rfl ⟨next_no (by first | (left; omega) | (right; left; omega) | (right; right; left; omega) | (right; right; right; left; assumption) | (right; right; right; right; omega)), S.below (i := 0) rfl⟩
end Go.Proofs.Ytidcdfilfccigaa
