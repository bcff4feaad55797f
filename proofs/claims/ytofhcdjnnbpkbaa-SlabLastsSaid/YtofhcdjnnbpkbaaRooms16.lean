/- Walk over the law SlabRooms. -/
import Derived.Test.YtofhcdjnnbpkbaaAwake16
import Derived.Test.YtofhcdjnnbpkbaaEnd
import Derived.LoopTactic
namespace Go.Proofs.Ytofhcdjnnbpkbaa
set_option linter.unusedVariables false
set_option linter.unusedSimpArgs false
set_option linter.unnecessarySimpa false
open Go.RowKit

def rep (n : Nat) (x : Int) : List Int := List.replicate n x
theorem rep_len (n : Nat) (x : Int) : (rep n x).length = n := by simp [rep]
theorem made_bytes (n : Nat) : madeCells (Value.cells (.int .u8 0)) (n * 1) = (bytesOf (rep n 0)).toArray := by
  apply Array.ext
  · simp [madeCells, bytesOf, rep]
  · intro i h1 h2
    simp [madeCells, bytesOf, rep, Value.cells, Nat.mod_one]
theorem run_make_u8 (n : Nat) (hn : n ≤ 281474976710656) (w : World) : (Instr.makeSlice 25 (.int .i64 (n : Int)) (.int .i64 (n : Int))).run Try.prog w = .ok (.slice (some ⟨w.heap.size, 0, none⟩) n n) (w.alloc (.cells (bytesOf (rep n 0)).toArray 5)) := by
  obtain ⟨i, hi, hz, hsize, hby⟩ := info_parts info_u8
  have := run_make (P := Try.prog) w 25 5 i (.int .u8 0) Try.underlying25 hi hz .i64 .i64 n n (by omega) (Int.le_refl _) (by rw [hby]; omega) (by omega)
  rw [hsize] at this
  simp only [Int.toNat_natCast, made_bytes] at this
  exact this
theorem app_room {S L : List Int} {q fu : Int} (P : List Int) (hs : S.length + L.length + P.length ≤ 262144) (hf : fu ≠ 0) : appS ⟨S, L, q, fu, false⟩ P = ⟨S, L ++ P, q + 1, stF fu, false⟩ ∧ appE ⟨S, L, q, fu, false⟩ P.length = 0 := by
  unfold appS appE stS stD stE
  simp [hf, hs, Nat.not_lt.2 hs]
theorem app_full {S L : List Int} {q fu : Int} (P : List Int) (hs : 262144 < S.length + L.length + P.length) : appS ⟨S, L, q, fu, false⟩ P = ⟨S, L, q, fu, false⟩ ∧ appE ⟨S, L, q, fu, false⟩ P.length = 4 := by
  unfold appS appE
  simp [hs]
theorem in_of {S L : List Int} {q fu : Int} {d : Bool} {n : Int} (h0 : 0 ≤ q) (h1 : q ≤ n) (h2 : -9223372036854775808 ≤ fu) (h3 : fu ≤ 9223372036854775807) (h4 : S.length + L.length ≤ 262144) : St.In ⟨S, L, q, fu, d⟩ n := ⟨h0, h1, h2, h3, h4⟩
theorem away_row {w : World} {l : List Asn} {i j n c : Nat} {T : TypeId} {k : Nat} {A : Option Addr} {xs : List Value} {P : List Int} (hj : l[j]? = some (row T k (.slice A n c) n xs)) (hij : j ≠ i) : Away w l i A P := by
  intro ad had _
  exact ⟨j, _, hij, hj, fun G hG => by rw [hG.1]; subst had; rfl⟩
theorem away_box {w : World} {l : List Asn} {i j b : Nat} {T : TypeId} {cs : List Value} {P : List Int} (hj : l[j]? = some (box b T cs)) (hij : j ≠ i) : Away w l i (some ⟨b, 0, none⟩) P := by
  intro ad had _
  exact ⟨j, _, hij, hj, fun G hG => by rw [hG.1]; cases had; rfl⟩

set_option maxRecDepth 100000 in
set_option maxHeartbeats 4000000 in
theorem rooms_any (n fu : Int) (n0 : 0 ≤ n) (n1 : n ≤ 4294967295) (f0 : 0 ≤ fu) (f1 : fu ≤ 255) (W : World) :
    Calls Try.prog 6 #[.int .u32 n, .int .u8 fu] W fun e w' => e = .returned (.bool true) ∧ Below W.heap.size W w' := by
  have h0 := Sat.pushRest W
  have HN := Lib.hid (new_sat h0)
  obtain ⟨s, hs⟩ : ∃ s : Nat, n % 262146 = s := ⟨(n % 262146).toNat, by omega⟩
  have hs1 : s ≤ 262145 := by omega
  obtain ⟨f, rfl⟩ : ∃ f : Nat, fu = f := ⟨fu.toNat, by omega⟩
  have m1 := run_make_u8 s (by omega)
  have m2 := run_make_u8 (262144 - s + 1) (by omega)
  have m3 := run_make_u8 (262144 - s) (by omega)
  clear h0
  go_enter Try.func6, Try.ntmps6
  go_wp2_with fail
  refine HN.out.mono ?_
  rintro e w1 ⟨rfl, h1⟩
  simp only [List.cons_append, List.nil_append, List.set_cons_succ, List.set_cons_zero] at h1
  clear HN
  have hst : st0 = ⟨[], [], 0, -1, false⟩ := rfl
  rw [hst] at h1
  clear hst
  rcases (show 262144 < s ∨ s ≤ 262144 by omega) with hb | hb
  · skip
    have hma := h1.made (bytesOf (rep s 0)).toArray 5 1 (s) (s) (by simp [bytesOf, rep]) (Nat.le_refl _) (by unfold maxLen; omega)
    simp only [List.cons_append, List.nil_append, List.set_cons_succ, List.set_cons_zero] at hma
    have hta : (bytesOf (rep s 0)).toArray.toList.take ((s) * 1) = bytesOf (rep s 0) := by simp [bytesOf, rep]
    rw [hta] at hma
    have HMa := Lib.hid hma
    clear hta hma
    go_wp2_with fail
    have hq := append_sat HMa.out (i := 1) rfl (st := ⟨[], [], 0, -1, false⟩) (n := 9) ⟨by decide, by decide, by decide, by decide, by decide⟩ (by decide) (rep (s) 0) (some ⟨_, 0, none⟩) (s) (fun h => by cases h) (src_row (HMa.out.rowOf (i := 2) rfl)) (away_row (j := 2) (HMa.out |> fun _ => rfl) (by decide)) (by rw [rep_len]; omega)
    rw [(app_full (S := []) (L := []) (q := 0) (fu := -1) (rep s 0) (by rw [rep_len]; simp; omega)).1, (app_full (S := []) (L := []) (q := 0) (fu := -1) (rep s 0) (by rw [rep_len]; simp; omega)).2, rep_len] at hq
    have HQ := Lib.hid hq
    clear hq
    refine HQ.out.mono ?_
    rintro e w2 ⟨rfl, hx⟩
    simp only [List.cons_append, List.nil_append, List.set_cons_succ, List.set_cons_zero] at hx
    have he := hx.left (l := [_, _]) (l' := [_])
    clear hx HQ HMa
    go_wp2_with fail
    have hq := erase_sat he (i := 1) rfl (n := 9) (in_of (by omega) (by omega) (by omega) (by omega) (by simp only [List.length_nil, rep_len]; omega)) (by decide)
    have e1 : syE ⟨[], [], 0, -1, false⟩ = 0 := rfl
    have e2 : erS ⟨[], [], 0, -1, false⟩ = ⟨[], [], 1, -1, false⟩ := rfl
    rw [e1, e2] at hq
    have HQ := Lib.hid hq
    clear hq e1 e2 he
    refine HQ.out.mono ?_
    rintro e w5 ⟨rfl, h5⟩
    simp only [List.cons_append, List.nil_append, List.set_cons_succ, List.set_cons_zero] at h5
    clear HQ
    go_wp2_with fail
    refine (loose_sat h5 (i := 1) rfl).mono ?_
    rintro e w6 ⟨rfl, rfl⟩
    go_wp2_with fail
    refine (steps_sat h5 (i := 1) rfl).mono ?_
    rintro e w6 ⟨rfl, rfl⟩
    go_wp2_with fail
    have hq := fuse_sat h5 (i := 1) rfl (f : Int)
    have e2 : fuS ⟨[], [], 1, -1, false⟩ (f : Int) = ⟨[], rep 0 1, (1 : Int) + (0 : Nat), (f : Int) - (0 : Nat), false⟩ := by unfold fuS fuF rep; simp; omega
    rw [e2] at hq
    have HQ := Lib.hid hq
    clear hq e2 h5
    refine HQ.out.mono ?_
    rintro e w7 ⟨rfl, h7⟩
    simp only [List.cons_append, List.nil_append, List.set_cons_succ, List.set_cons_zero] at h7
    clear HQ m1 m2 m3
    go_wp2_with fail
    go_loopw [64] (fun i wr => ∃ k : Nat, k ≤ f ∧ i = .int .i64 k ∧ Sat W wr [rest W (· < W.heap.size), slabA W.heap.size ⟨[], rep k 1, (1 : Int) + k, (f : Int) - k, false⟩]) (fun i _ => f - (intOf i).toNat)
    case atStart => exact ⟨0, Nat.zero_le _, rfl, h7⟩
    case round =>
      obtain ⟨k, hk, rfl, hS⟩ := hrel
      clear h7
      by_cases hlt : k < f
      · have hb2 := hS.alloc #[.int .u8 1] 5
        simp only [List.cons_append, List.nil_append, List.set_cons_succ, List.set_cons_zero] at hb2
        have hq := append_sat hb2 (i := 1) rfl (n := 600) (in_of (by omega) (by omega) (by omega) (by omega) (by simp [rep]; omega)) (by decide) [1] (some ⟨_, 0, none⟩) 1 (fun h => by cases h) (box_src hb2 (i := 2) rfl) (away_box (j := 2) rfl (by decide)) (by decide)
        have ha := app_room (S := []) (L := rep k 1) (q := (1 : Int) + k) (fu := (f : Int) - k) [1] (by simp [rep]; omega) (by omega)
        have e3 : rep k 1 ++ [1] = rep (k + 1) 1 := by unfold rep; rw [List.replicate_succ']
        have e4 : stF ((f : Int) - k) = (f : Int) - ((k + 1 : Nat) : Int) := by unfold stF; rw [if_pos (by omega)]; omega
        have e5 : (1 : Int) + k + 1 = (1 : Int) + ((k + 1 : Nat) : Int) := by omega
        rw [ha.1, ha.2, e3, e4, e5] at hq
        have HQ := Lib.hid hq
        clear ha e3 e4 e5 hq hb2 hS
        go_wp2_with fail
        refine HQ.out.mono ?_
        rintro e w8 ⟨rfl, h8⟩
        simp only [List.cons_append, List.nil_append, List.set_cons_succ, List.set_cons_zero] at h8
        go_wp2
        go_roundw
        case rel => exact ⟨k + 1, by omega, by go_num, h8.left (l := [_, _]) (l' := [_])⟩
        case measure => simp [intOf]; omega
      · obtain rfl : k = f := by omega
        have HS := Lib.hid hS
        clear hS
        go_wp2_with fail
        refine (awake_any _).mono ?_
        rintro e w8 ⟨rfl, hbl⟩
        have h8 := HS.out.grow hbl
        clear hbl HS
        have e0 : (k : Int) - k = 0 := by omega
        rw [e0] at h8
        have hq := append_sat h8 (i := 1) rfl (n := 600) (in_of (by omega) (by omega) (by omega) (by omega) (by simp [rep]; omega)) (by decide) [] none 0 (fun _ => ⟨rfl, rfl⟩) (fun ad h => by cases h) (fun ad h => by cases h) (by decide)
        have e1 : appE ⟨[], rep k 1, (1 : Int) + k, 0, false⟩ ([] : List Int).length = 5 := by unfold appE stE; simp [rep]; omega
        have e2 : appS ⟨[], rep k 1, (1 : Int) + k, 0, false⟩ [] = ⟨[], rep k 1, (1 : Int) + k, 0, true⟩ := by unfold appS stS stF stD; simp [rep]; omega
        rw [e1, e2] at hq
        have HQ := Lib.hid hq
        clear hq e1 e2 h8 e0
        go_wp2_with fail
        refine HQ.out.mono ?_
        rintro e w9 ⟨rfl, h9⟩
        simp only [List.cons_append, List.nil_append, List.set_cons_succ, List.set_cons_zero] at h9
        go_wp2_with fail
        refine (down_sat h9 (i := 1) rfl).mono ?_
        rintro e w10 ⟨rfl, rfl⟩
        go_wp2_with fail
        refine (steps_sat h9 (i := 1) rfl).mono ?_
        rintro e w10 ⟨rfl, rfl⟩
        go_wp2_with fail
        refine (crash_sat h9 (i := 1) rfl (n := 600) (in_of (by omega) (by omega) (by omega) (by omega) (by simp [rep]; omega)) (by decide) 0 0).mono ?_
        rintro e w10 ⟨rfl, h10⟩
        simp only [List.cons_append, List.nil_append, List.set_cons_succ, List.set_cons_zero] at h10
        go_wp2_with fail
        refine (down_sat h10 (i := 1) rfl).mono ?_
        rintro e w11 ⟨rfl, rfl⟩
        have e6 : (crS ⟨[], rep k 1, (1 : Int) + k, 0, true⟩ 0 0).down = false := rfl
        rw [e6]
        go_wp2
        go_ret
        exact ⟨rfl, h10.below (i := 0) rfl⟩
  · skip
    have c2 : ((262144 - s + 1 : Nat) : Int) = 262144 - (s : Int) + 1 := by omega
    have c3 : ((262144 - s : Nat) : Int) = 262144 - (s : Int) := by omega
    rw [c2] at m2
    rw [c3] at m3
    clear c2 c3
    have hma := h1.made (bytesOf (rep s 0)).toArray 5 1 (s) (s) (by simp [bytesOf, rep]) (Nat.le_refl _) (by unfold maxLen; omega)
    simp only [List.cons_append, List.nil_append, List.set_cons_succ, List.set_cons_zero] at hma
    have hta : (bytesOf (rep s 0)).toArray.toList.take ((s) * 1) = bytesOf (rep s 0) := by simp [bytesOf, rep]
    rw [hta] at hma
    have HMa := Lib.hid hma
    clear hta hma
    go_wp2_with fail
    have hq := append_sat HMa.out (i := 1) rfl (st := ⟨[], [], 0, -1, false⟩) (n := 9) ⟨by decide, by decide, by decide, by decide, by decide⟩ (by decide) (rep (s) 0) (some ⟨_, 0, none⟩) (s) (fun h => by cases h) (src_row (HMa.out.rowOf (i := 2) rfl)) (away_row (j := 2) (HMa.out |> fun _ => rfl) (by decide)) (by rw [rep_len]; omega)
    rw [(app_room (S := []) (L := []) (q := 0) (fu := -1) (rep s 0) (by rw [rep_len]; simpa using hb) (by decide)).1, (app_room (S := []) (L := []) (q := 0) (fu := -1) (rep s 0) (by rw [rep_len]; simpa using hb) (by decide)).2, rep_len] at hq
    have HQ := Lib.hid hq
    clear hq
    refine HQ.out.mono ?_
    rintro e w2 ⟨rfl, hx⟩
    simp only [List.cons_append, List.nil_append, List.set_cons_succ, List.set_cons_zero] at hx
    have h2 := hx.left (l := [_, _]) (l' := [_])
    clear hx HQ HMa
    have e0 : ⟨[], rep s 0, 0 + 1, stF (-1), false⟩ = (⟨[], rep s 0, 1, -1, false⟩ : St) := rfl
    rw [e0] at h2
    clear e0
    have hmb := h2.made (bytesOf (rep (262144 - s + 1) 0)).toArray 5 1 ((262144 - s + 1)) ((262144 - s + 1)) (by simp [bytesOf, rep]) (Nat.le_refl _) (by unfold maxLen; omega)
    simp only [List.cons_append, List.nil_append, List.set_cons_succ, List.set_cons_zero] at hmb
    have htb : (bytesOf (rep (262144 - s + 1) 0)).toArray.toList.take (((262144 - s + 1)) * 1) = bytesOf (rep (262144 - s + 1) 0) := by simp [bytesOf, rep]
    rw [htb] at hmb
    have HMb := Lib.hid hmb
    clear htb hmb
    go_wp2_with fail
    have hq := append_sat HMb.out (i := 1) rfl (st := ⟨[], rep s 0, 1, -1, false⟩) (n := 9) (in_of (by omega) (by omega) (by omega) (by omega) (by simp [rep]; omega)) (by decide) (rep (262144 - s + 1) 0) (some ⟨_, 0, none⟩) (262144 - s + 1) (fun h => by cases h) (src_row (HMb.out.rowOf (i := 2) rfl)) (away_row (j := 2) (HMb.out |> fun _ => rfl) (by decide)) (by rw [rep_len]; omega)
    rw [(app_full (S := []) (L := rep s 0) (q := 1) (fu := -1) (rep (262144 - s + 1) 0) (by rw [rep_len, rep_len]; simp; omega)).1, (app_full (S := []) (L := rep s 0) (q := 1) (fu := -1) (rep (262144 - s + 1) 0) (by rw [rep_len, rep_len]; simp; omega)).2, rep_len] at hq
    have HQ := Lib.hid hq
    clear hq
    refine HQ.out.mono ?_
    rintro e w2 ⟨rfl, hx⟩
    simp only [List.cons_append, List.nil_append, List.set_cons_succ, List.set_cons_zero] at hx
    have h3 := hx.left (l := [_, _]) (l' := [_])
    clear hx HQ HMb
    have hmc := h3.made (bytesOf (rep (262144 - s) 0)).toArray 5 1 ((262144 - s)) ((262144 - s)) (by simp [bytesOf, rep]) (Nat.le_refl _) (by unfold maxLen; omega)
    simp only [List.cons_append, List.nil_append, List.set_cons_succ, List.set_cons_zero] at hmc
    have htc : (bytesOf (rep (262144 - s) 0)).toArray.toList.take (((262144 - s)) * 1) = bytesOf (rep (262144 - s) 0) := by simp [bytesOf, rep]
    rw [htc] at hmc
    have HMc := Lib.hid hmc
    clear htc hmc
    go_wp2_with fail
    have hq := append_sat HMc.out (i := 1) rfl (st := ⟨[], rep s 0, 1, -1, false⟩) (n := 9) (in_of (by omega) (by omega) (by omega) (by omega) (by simp [rep]; omega)) (by decide) (rep (262144 - s) 0) (some ⟨_, 0, none⟩) (262144 - s) (fun h => by cases h) (src_row (HMc.out.rowOf (i := 2) rfl)) (away_row (j := 2) (HMc.out |> fun _ => rfl) (by decide)) (by rw [rep_len]; omega)
    rw [(app_room (S := []) (L := rep s 0) (q := 1) (fu := -1) (rep (262144 - s) 0) (by rw [rep_len, rep_len]; simp; omega) (by decide)).1, (app_room (S := []) (L := rep s 0) (q := 1) (fu := -1) (rep (262144 - s) 0) (by rw [rep_len, rep_len]; simp; omega) (by decide)).2, rep_len] at hq
    have HQ := Lib.hid hq
    clear hq
    refine HQ.out.mono ?_
    rintro e w2 ⟨rfl, hx⟩
    simp only [List.cons_append, List.nil_append, List.set_cons_succ, List.set_cons_zero] at hx
    have h4 := hx.left (l := [_, _]) (l' := [_])
    clear hx HQ HMc
    have e0 : (⟨[], rep s 0 ++ rep (262144 - s) 0, 1 + 1, stF (-1), false⟩ : St) = ⟨[], rep 262144 0, 2, -1, false⟩ := by unfold rep; rw [List.replicate_append_replicate]; congr 2; omega
    rw [e0] at h4
    clear e0
    go_wp2_with fail
    refine (loose_sat h4 (i := 1) rfl).mono ?_
    rintro e w6 ⟨rfl, rfl⟩
    have e1 : (rep 262144 0).length = 262144 := rep_len _ _
    dsimp only
    rw [e1]
    clear e1
    have he := h4
    clear h4 h3 h2
    go_wp2_with fail
    have hq := erase_sat he (i := 1) rfl (n := 9) (in_of (by omega) (by omega) (by omega) (by omega) (by simp only [List.length_nil, rep_len]; omega)) (by decide)
    have e1 : syE ⟨[], rep 262144 0, 2, -1, false⟩ = 0 := rfl
    have e2 : erS ⟨[], rep 262144 0, 2, -1, false⟩ = ⟨[], [], 3, -1, false⟩ := rfl
    rw [e1, e2] at hq
    have HQ := Lib.hid hq
    clear hq e1 e2 he
    refine HQ.out.mono ?_
    rintro e w5 ⟨rfl, h5⟩
    simp only [List.cons_append, List.nil_append, List.set_cons_succ, List.set_cons_zero] at h5
    clear HQ
    go_wp2_with fail
    refine (loose_sat h5 (i := 1) rfl).mono ?_
    rintro e w6 ⟨rfl, rfl⟩
    go_wp2_with fail
    refine (steps_sat h5 (i := 1) rfl).mono ?_
    rintro e w6 ⟨rfl, rfl⟩
    go_wp2_with fail
    have hq := fuse_sat h5 (i := 1) rfl (f : Int)
    have e2 : fuS ⟨[], [], 3, -1, false⟩ (f : Int) = ⟨[], rep 0 1, (3 : Int) + (0 : Nat), (f : Int) - (0 : Nat), false⟩ := by unfold fuS fuF rep; simp; omega
    rw [e2] at hq
    have HQ := Lib.hid hq
    clear hq e2 h5
    refine HQ.out.mono ?_
    rintro e w7 ⟨rfl, h7⟩
    simp only [List.cons_append, List.nil_append, List.set_cons_succ, List.set_cons_zero] at h7
    clear HQ m1 m2 m3
    go_wp2_with fail
    go_loopw [64] (fun i wr => ∃ k : Nat, k ≤ f ∧ i = .int .i64 k ∧ Sat W wr [rest W (· < W.heap.size), slabA W.heap.size ⟨[], rep k 1, (3 : Int) + k, (f : Int) - k, false⟩]) (fun i _ => f - (intOf i).toNat)
    case atStart => exact ⟨0, Nat.zero_le _, rfl, h7⟩
    case round =>
      obtain ⟨k, hk, rfl, hS⟩ := hrel
      clear h7
      by_cases hlt : k < f
      · have hb2 := hS.alloc #[.int .u8 1] 5
        simp only [List.cons_append, List.nil_append, List.set_cons_succ, List.set_cons_zero] at hb2
        have hq := append_sat hb2 (i := 1) rfl (n := 600) (in_of (by omega) (by omega) (by omega) (by omega) (by simp [rep]; omega)) (by decide) [1] (some ⟨_, 0, none⟩) 1 (fun h => by cases h) (box_src hb2 (i := 2) rfl) (away_box (j := 2) rfl (by decide)) (by decide)
        have ha := app_room (S := []) (L := rep k 1) (q := (3 : Int) + k) (fu := (f : Int) - k) [1] (by simp [rep]; omega) (by omega)
        have e3 : rep k 1 ++ [1] = rep (k + 1) 1 := by unfold rep; rw [List.replicate_succ']
        have e4 : stF ((f : Int) - k) = (f : Int) - ((k + 1 : Nat) : Int) := by unfold stF; rw [if_pos (by omega)]; omega
        have e5 : (3 : Int) + k + 1 = (3 : Int) + ((k + 1 : Nat) : Int) := by omega
        rw [ha.1, ha.2, e3, e4, e5] at hq
        have HQ := Lib.hid hq
        clear ha e3 e4 e5 hq hb2 hS
        go_wp2_with fail
        refine HQ.out.mono ?_
        rintro e w8 ⟨rfl, h8⟩
        simp only [List.cons_append, List.nil_append, List.set_cons_succ, List.set_cons_zero] at h8
        go_wp2
        go_roundw
        case rel => exact ⟨k + 1, by omega, by go_num, h8.left (l := [_, _]) (l' := [_])⟩
        case measure => simp [intOf]; omega
      · obtain rfl : k = f := by omega
        have HS := Lib.hid hS
        clear hS
        go_wp2_with fail
        refine (awake_any _).mono ?_
        rintro e w8 ⟨rfl, hbl⟩
        have h8 := HS.out.grow hbl
        clear hbl HS
        have e0 : (k : Int) - k = 0 := by omega
        rw [e0] at h8
        have hq := append_sat h8 (i := 1) rfl (n := 600) (in_of (by omega) (by omega) (by omega) (by omega) (by simp [rep]; omega)) (by decide) [] none 0 (fun _ => ⟨rfl, rfl⟩) (fun ad h => by cases h) (fun ad h => by cases h) (by decide)
        have e1 : appE ⟨[], rep k 1, (3 : Int) + k, 0, false⟩ ([] : List Int).length = 5 := by unfold appE stE; simp [rep]; omega
        have e2 : appS ⟨[], rep k 1, (3 : Int) + k, 0, false⟩ [] = ⟨[], rep k 1, (3 : Int) + k, 0, true⟩ := by unfold appS stS stF stD; simp [rep]; omega
        rw [e1, e2] at hq
        have HQ := Lib.hid hq
        clear hq e1 e2 h8 e0
        go_wp2_with fail
        refine HQ.out.mono ?_
        rintro e w9 ⟨rfl, h9⟩
        simp only [List.cons_append, List.nil_append, List.set_cons_succ, List.set_cons_zero] at h9
        go_wp2_with fail
        refine (down_sat h9 (i := 1) rfl).mono ?_
        rintro e w10 ⟨rfl, rfl⟩
        go_wp2_with fail
        refine (steps_sat h9 (i := 1) rfl).mono ?_
        rintro e w10 ⟨rfl, rfl⟩
        go_wp2_with fail
        refine (crash_sat h9 (i := 1) rfl (n := 600) (in_of (by omega) (by omega) (by omega) (by omega) (by simp [rep]; omega)) (by decide) 0 0).mono ?_
        rintro e w10 ⟨rfl, h10⟩
        simp only [List.cons_append, List.nil_append, List.set_cons_succ, List.set_cons_zero] at h10
        go_wp2_with fail
        refine (down_sat h10 (i := 1) rfl).mono ?_
        rintro e w11 ⟨rfl, rfl⟩
        have e6 : (crS ⟨[], rep k 1, (3 : Int) + k, 0, true⟩ 0 0).down = false := rfl
        rw [e6]
        go_wp2
        go_ret
        exact ⟨rfl, h10.below (i := 0) rfl⟩
end Go.Proofs.Ytofhcdjnnbpkbaa
