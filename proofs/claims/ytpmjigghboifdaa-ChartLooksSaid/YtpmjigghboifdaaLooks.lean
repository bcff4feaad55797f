/- Walk over the law ChartLooks. -/
import Derived.Test.YtpmjigghboifdaaGot
import Derived.Test.YtpmjigghboifdaaAwake
namespace Go.Proofs.Ytpmjigghboifdaa
open Go.RowKit Fl

set_option maxRecDepth 100000 in
set_option maxHeartbeats 2000000 in
theorem looks_any (x0 z0 x1 z1 x2 z2 : Int) (L : List (Int × Int)) (A : Option Addr) (c : Nat) (w : World) (hr : RowOf w A L) (hl : L.length * 16 ≤ 140737488355328) :
    Calls Try.prog 7 #[.agg #[.int .i64 x0, .int .i64 z0], .agg #[.int .i64 x1, .int .i64 z1], .agg #[.int .i64 x2, .int .i64 z2], .slice A L.length c] w fun e w' =>
    e = .returned (.bool true) ∧ Below w.heap.size w w' := by
  obtain ⟨i0, hi, hz0, hz1, hz2⟩ := info_parts info_spot
  have hK0 : Known w [(w.heap.size, x0, z0), (w.heap.size + 1, x1, z1), (w.heap.size + 1 + 1, x2, z2)] (((w.alloc (.cells #[.int .i64 x0, .int .i64 z0] 29)).alloc (.cells #[.int .i64 x1, .int .i64 z1] 29)).alloc (.cells #[.int .i64 x2, .int .i64 z2] 29)) := by
    have h := ((((Known.nil w).add x0 z0 29).add x1 z1 29).add x2 z2 29)
    refine ⟨fun e he => h.1 e ?_, h.2⟩
    simp at he ⊢
    rcases he with he | he | he <;> simp [he]
  have HG0 := Lib.hid (show Got w [(w.heap.size, x0, z0), (w.heap.size + 1, x1, z1), (w.heap.size + 1 + 1, x2, z2)] (w.heap.size + 1 + 1 + 1) L (.slice none 0 0) 0 (((w.alloc (.cells #[.int .i64 x0, .int .i64 z0] 29)).alloc (.cells #[.int .i64 x1, .int .i64 z1] 29)).alloc (.cells #[.int .i64 x2, .int .i64 z2] 29)) from ⟨hK0, World.ownsRow_nil _ _ _ _, by simp⟩)
  clear hK0
  have HR := Lib.hid hr
  clear hr
  have HA := Lib.hid awake_any
  have hKs : ∀ e ∈ [(w.heap.size, x0, z0), (w.heap.size + 1, x1, z1), (w.heap.size + 1 + 1, x2, z2)], e.1 < (w.heap.size + 1 + 1 + 1) := by
    intro e he; simp at he; rcases he with rfl | rfl | rfl <;> (dsimp only; omega)
  have HKS := Lib.hid hKs
  clear hKs
  go_enter Try.func7, Try.ntmps7
  go_wp2
  go_loopw [9, 14] (fun v i wr => ∃ k : Nat, k ≤ L.length ∧ i = .int .i64 k ∧ Got w [(w.heap.size, x0, z0), (w.heap.size + 1, x1, z1), (w.heap.size + 1 + 1, x2, z2)] (w.heap.size + 1 + 1 + 1) L v k wr) (fun _ i _ => L.length - (intOf i).toNat)
  case atStart => exact ⟨0, Nat.zero_le _, rfl, HG0.out⟩
  case round =>
    obtain ⟨k, hk, rfl, hg⟩ := hrel
    have HG := Lib.hid hg
    by_cases hlt : k < L.length
    · obtain ⟨b, off, rfl, hs⟩ := HR.out (by omega)
      obtain ⟨c1, c2⟩ := (hs.below hs.1 hg.1.2).2 k L[k] (List.getElem?_eq_getElem hlt)
      have HT := Lib.hid (To_any L[k].1 L[k].2)
      have HS := Lib.hid (fun v v' w1 w2 h1 h3 h4 => @Got.step w w1 w2 [(w.heap.size, x0, z0), (w.heap.size + 1, x1, z1), (w.heap.size + 1 + 1, x2, z2)] (w.heap.size + 1 + 1 + 1) L v v' k h1 HKS.out (by omega) hlt h3 h4)
      clear hs HR HKS hg
      generalize L[k].1 = x, L[k].2 = y at *
      go_wp2_with fail
      refine (HT.out _).mono ?_
      rintro e w1 ⟨rfl, hb1⟩
      have HG1 := Lib.hid ((HG.out.alloc _).keep hb1)
      clear hb1 c1 c2 HG
      go_wp2_with (first
        | (at_builtin; refine wpList_append_own _ rfl _ _ 45 rfl (w.heap.size + 1 + 1 + 1) 23 i0 (.agg #[.int .i64 0, .int .i64 0]) 2 16 Try.underlying45 hi hz0 hz1 hz2 rfl (by decide) _ _ _ rfl (HG1.out.2.1.alloc _) ⟨w1.heap.size, 0, none⟩ 1 1 [.int .i64 x, .int .i64 y] rfl rfl ?c1 ?c2 ?c3 ?c4 ?c5 ?_)
        | fail)
      case c1 =>
        intro j u hj
        match j, hj with
        | 0, hj => simp at hj; subst hj; simp [Addr.add]
        | 1, hj => simp at hj; subst hj; simp [Addr.add]
      case c2 => intro u hu; simp at hu; rcases hu with rfl | rfl <;> rfl
      case c3 => unfold maxLen; omega
      case c4 => omega
      case c5 => have := HG1.out.2.2; simp; omega
      · intro v' w2 hown' hgrow _
        have hN := HS.out _ v' _ w2 (HG1.out.alloc _) hown' hgrow
        have HN := Lib.hid hN
        clear hN hown' hgrow
        go_wp2
        go_roundw
        case rel => exact ⟨k + 1, by omega, by go_num, HN.out⟩
        case measure => simp [intOf]; omega
    · obtain rfl : k = L.length := by omega
      obtain ⟨A', c', rfl, hr'⟩ := hg.row rfl
      have hra : RowOf wr A L := HR.out.below hg.1.2
      have hS : (Known w [(w.heap.size, x0, z0), (w.heap.size + 1, x1, z1), (w.heap.size + 1 + 1, x2, z2)] wr ∧ RowOf wr A L ∧ RowOf wr A' L) := ⟨hg.1, hra, hr'⟩
      have HS := Lib.hid hS
      clear hS hra hr' hg HG HR
      go_wp2_with fail
      refine region_flow (S := fun w' => (Known w [(w.heap.size, x0, z0), (w.heap.size + 1, x1, z1), (w.heap.size + 1 + 1, x2, z2)] w' ∧ RowOf w' A L ∧ RowOf w' A' L)) (vs := [?v0, ?v1, ?v2, ?v3, ?v4, ?v5, ?v6, ?v7, ?v8, ?v9, ?v10, ?v11, ?v12, ?v13, ?v14, ?v15, ?v16, ?v17, ?v18, ?v19, ?v20, ?v21, ?v22, ?v23, ?v24, ?v25, ?v26, ?v27, ?v28, ?v29, ?v30, ?v31, ?v32, ?v33, ?v34, ?v35, ?v36]) (by kernel_rfl) (by kernel_rfl) (by kernel_rfl) (by kernel_rfl) (by kernel_rfl) rfl ?hS ?hops ?hend
      case hS => exact ⟨HS.out.1.drew, HS.out.2⟩
      case hops =>
        simp only [OpsOk, fillT, List.setIfInBounds_toArray, List.set_cons_zero, List.set_cons_succ]
        refine ⟨.inl ⟨by rfl, opOk_call (f := 10) (args := ?a0) (fun wS hS => ?_) (fun wS hS => ?_)⟩, ?_⟩
        rotate_left 1
        · ((have hk := hS.1.facts; simp only [List.forall_mem_cons] at hk; go_simp)); try (with_reducible rfl)
        · refine (HA.out _).mono ?_
          rintro e' w2 ⟨rfl, hb⟩
          refine ⟨?_, ⟨hS.1.keep hb, hS.2.1.keep hb, hS.2.2.keep hb⟩⟩
          rfl
        refine ⟨.inl ⟨by rfl, opOk_pure fun wS hS => ?_⟩, ?_⟩
        · ((have hk := hS.1.facts; simp only [List.forall_mem_cons] at hk; go_simp)); try (with_reducible rfl)
        refine ⟨.inl ⟨by rfl, opOk_pure fun wS hS => ?_⟩, ?_⟩
        · ((have hk := hS.1.facts; simp only [List.forall_mem_cons] at hk; go_simp)); try (with_reducible rfl)
        refine ⟨.inl ⟨by rfl, opOk_call (f := 11) (args := ?a3) (fun wS hS => ?_) (fun wS hS => ?_)⟩, ?_⟩
        rotate_left 1
        · ((have hk := hS.1.facts; simp only [List.forall_mem_cons] at hk; go_simp)); try (with_reducible rfl)
        · refine (To_any x0 z0 _).mono ?_
          rintro e' w2 ⟨rfl, hb⟩
          refine ⟨?_, ⟨hS.1.keep hb, hS.2.1.keep hb, hS.2.2.keep hb⟩⟩
          rfl
        refine ⟨.inl ⟨by rfl, opOk_pure fun wS hS => ?_⟩, ?_⟩
        · ((have hk := hS.1.facts; simp only [List.forall_mem_cons] at hk; go_simp)); try (with_reducible rfl)
        refine ⟨.inl ⟨by rfl, opOk_call (f := 11) (args := ?a5) (fun wS hS => ?_) (fun wS hS => ?_)⟩, ?_⟩
        rotate_left 1
        · ((have hk := hS.1.facts; simp only [List.forall_mem_cons] at hk; go_simp)); try (with_reducible rfl)
        · refine (To_any x1 z1 _).mono ?_
          rintro e' w2 ⟨rfl, hb⟩
          refine ⟨?_, ⟨hS.1.keep hb, hS.2.1.keep hb, hS.2.2.keep hb⟩⟩
          rfl
        refine ⟨.inl ⟨by rfl, opOk_call (f := 22) (args := ?a6) (fun wS hS => ?_) (fun wS hS => ?_)⟩, ?_⟩
        rotate_left 1
        · ((have hk := hS.1.facts; simp only [List.forall_mem_cons] at hk; go_simp)); try (with_reducible rfl)
        · refine (far_any _ _ _ _ _).mono ?_
          rintro e' w2 ⟨rfl, hb⟩
          refine ⟨?_, ⟨hS.1.keep hb, hS.2.1.keep hb, hS.2.2.keep hb⟩⟩
          rfl
        refine ⟨.inl ⟨by rfl, opOk_pure fun wS hS => ?_⟩, ?_⟩
        · ((have hk := hS.1.facts; simp only [List.forall_mem_cons] at hk; go_simp)); try (with_reducible rfl)
        refine ⟨.inl ⟨by rfl, opOk_pure fun wS hS => ?_⟩, ?_⟩
        · ((have hk := hS.1.facts; simp only [List.forall_mem_cons] at hk; go_simp)); try (with_reducible rfl)
        refine ⟨.inl ⟨by rfl, opOk_call (f := 23) (args := ?a9) (fun wS hS => ?_) (fun wS hS => ?_)⟩, ?_⟩
        rotate_left 1
        · ((have hk := hS.1.facts; simp only [List.forall_mem_cons] at hk; go_simp)); try (with_reducible rfl)
        · refine (rfar_any _ _ _ _ _).mono ?_
          rintro e' w2 ⟨rfl, hb⟩
          refine ⟨?_, ⟨hS.1.keep hb, hS.2.1.keep hb, hS.2.2.keep hb⟩⟩
          rfl
        refine ⟨.inl ⟨by rfl, opOk_pure fun wS hS => ?_⟩, ?_⟩
        · ((have hk := hS.1.facts; simp only [List.forall_mem_cons] at hk; go_simp)); try (with_reducible rfl)
        refine ⟨.inl ⟨by rfl, opOk_pure fun wS hS => ?_⟩, ?_⟩
        · ((have hk := hS.1.facts; simp only [List.forall_mem_cons] at hk; go_simp)); try (with_reducible rfl)
        refine ⟨.inl ⟨by rfl, opOk_pure fun wS hS => ?_⟩, ?_⟩
        · ((have hk := hS.1.facts; simp only [List.forall_mem_cons] at hk; go_simp)); try (with_reducible rfl)
        refine ⟨.inl ⟨by rfl, opOk_pure fun wS hS => ?_⟩, ?_⟩
        · ((have hk := hS.1.facts; simp only [List.forall_mem_cons] at hk; go_simp)); try (with_reducible rfl)
        refine ⟨.inl ⟨by rfl, opOk_call (f := 11) (args := ?a14) (fun wS hS => ?_) (fun wS hS => ?_)⟩, ?_⟩
        rotate_left 1
        · ((have hk := hS.1.facts; simp only [List.forall_mem_cons] at hk; go_simp)); try (with_reducible rfl)
        · refine (To_any x0 z0 _).mono ?_
          rintro e' w2 ⟨rfl, hb⟩
          refine ⟨?_, ⟨hS.1.keep hb, hS.2.1.keep hb, hS.2.2.keep hb⟩⟩
          rfl
        refine ⟨.inl ⟨by rfl, opOk_pure fun wS hS => ?_⟩, ?_⟩
        · ((have hk := hS.1.facts; simp only [List.forall_mem_cons] at hk; go_simp)); try (with_reducible rfl)
        refine ⟨.inl ⟨by rfl, opOk_call (f := 24) (args := ?a16) (fun wS hS => ?_) (fun wS hS => ?_)⟩, ?_⟩
        rotate_left 1
        · ((have hk := hS.1.facts; simp only [List.forall_mem_cons] at hk; go_simp)); try (with_reducible rfl)
        · refine (near_any (x0, z0) L A' c' _ hS.2.2 (by omega)).mono ?_
          rintro e' w2 ⟨rfl, hb⟩
          refine ⟨?_, ⟨hS.1.keep hb, hS.2.1.keep hb, hS.2.2.keep hb⟩⟩
          rfl
        refine ⟨.inl ⟨by rfl, opOk_pure fun wS hS => ?_⟩, ?_⟩
        · ((have hk := hS.1.facts; simp only [List.forall_mem_cons] at hk; go_simp)); try (with_reducible rfl)
        refine ⟨.inl ⟨by rfl, opOk_pure fun wS hS => ?_⟩, ?_⟩
        · ((have hk := hS.1.facts; simp only [List.forall_mem_cons] at hk; go_simp)); try (with_reducible rfl)
        refine ⟨.inl ⟨by rfl, opOk_call (f := 25) (args := ?a19) (fun wS hS => ?_) (fun wS hS => ?_)⟩, ?_⟩
        rotate_left 1
        · ((have hk := hS.1.facts; simp only [List.forall_mem_cons] at hk; go_simp)); try (with_reducible rfl)
        · refine (rnear_any (x0, z0) L A c _ hS.2.1 (by omega)).mono ?_
          rintro e' w2 ⟨rfl, hb⟩
          refine ⟨?_, ⟨hS.1.keep hb, hS.2.1.keep hb, hS.2.2.keep hb⟩⟩
          rfl
        refine ⟨.inl ⟨by rfl, opOk_pure fun wS hS => ?_⟩, ?_⟩
        · ((have hk := hS.1.facts; simp only [List.forall_mem_cons] at hk; go_simp)); try (with_reducible rfl)
        refine ⟨.inl ⟨by rfl, opOk_pure fun wS hS => ?_⟩, ?_⟩
        · ((have hk := hS.1.facts; simp only [List.forall_mem_cons] at hk; go_simp)); try (with_reducible rfl)
        refine ⟨.inl ⟨by rfl, opOk_pure fun wS hS => ?_⟩, ?_⟩
        · ((have hk := hS.1.facts; simp only [List.forall_mem_cons] at hk; go_simp)); try (with_reducible rfl)
        refine ⟨.inl ⟨by rfl, opOk_pure fun wS hS => ?_⟩, ?_⟩
        · ((have hk := hS.1.facts; simp only [List.forall_mem_cons] at hk; go_simp)); try (with_reducible rfl)
        refine ⟨.inl ⟨by rfl, opOk_call (f := 11) (args := ?a24) (fun wS hS => ?_) (fun wS hS => ?_)⟩, ?_⟩
        rotate_left 1
        · ((have hk := hS.1.facts; simp only [List.forall_mem_cons] at hk; go_simp)); try (with_reducible rfl)
        · refine (To_any x0 z0 _).mono ?_
          rintro e' w2 ⟨rfl, hb⟩
          refine ⟨?_, ⟨hS.1.keep hb, hS.2.1.keep hb, hS.2.2.keep hb⟩⟩
          rfl
        refine ⟨.inl ⟨by rfl, opOk_pure fun wS hS => ?_⟩, ?_⟩
        · ((have hk := hS.1.facts; simp only [List.forall_mem_cons] at hk; go_simp)); try (with_reducible rfl)
        refine ⟨.inl ⟨by rfl, opOk_call (f := 11) (args := ?a26) (fun wS hS => ?_) (fun wS hS => ?_)⟩, ?_⟩
        rotate_left 1
        · ((have hk := hS.1.facts; simp only [List.forall_mem_cons] at hk; go_simp)); try (with_reducible rfl)
        · refine (To_any x1 z1 _).mono ?_
          rintro e' w2 ⟨rfl, hb⟩
          refine ⟨?_, ⟨hS.1.keep hb, hS.2.1.keep hb, hS.2.2.keep hb⟩⟩
          rfl
        refine ⟨.inl ⟨by rfl, opOk_pure fun wS hS => ?_⟩, ?_⟩
        · ((have hk := hS.1.facts; simp only [List.forall_mem_cons] at hk; go_simp)); try (with_reducible rfl)
        refine ⟨.inl ⟨by rfl, opOk_call (f := 11) (args := ?a28) (fun wS hS => ?_) (fun wS hS => ?_)⟩, ?_⟩
        rotate_left 1
        · ((have hk := hS.1.facts; simp only [List.forall_mem_cons] at hk; go_simp)); try (with_reducible rfl)
        · refine (To_any x2 z2 _).mono ?_
          rintro e' w2 ⟨rfl, hb⟩
          refine ⟨?_, ⟨hS.1.keep hb, hS.2.1.keep hb, hS.2.2.keep hb⟩⟩
          rfl
        refine ⟨.inl ⟨by rfl, opOk_call (f := 26) (args := ?a29) (fun wS hS => ?_) (fun wS hS => ?_)⟩, ?_⟩
        rotate_left 1
        · ((have hk := hS.1.facts; simp only [List.forall_mem_cons] at hk; go_simp)); try (with_reducible rfl)
        · refine (side_any _ _ _ _ _ _ _).mono ?_
          rintro e' w2 ⟨rfl, hb⟩
          refine ⟨?_, ⟨hS.1.keep hb, hS.2.1.keep hb, hS.2.2.keep hb⟩⟩
          rfl
        refine ⟨.inl ⟨by rfl, opOk_pure fun wS hS => ?_⟩, ?_⟩
        · ((have hk := hS.1.facts; simp only [List.forall_mem_cons] at hk; go_simp)); try (with_reducible rfl)
        refine ⟨.inl ⟨by rfl, opOk_pure fun wS hS => ?_⟩, ?_⟩
        · ((have hk := hS.1.facts; simp only [List.forall_mem_cons] at hk; go_simp)); try (with_reducible rfl)
        refine ⟨.inl ⟨by rfl, opOk_pure fun wS hS => ?_⟩, ?_⟩
        · ((have hk := hS.1.facts; simp only [List.forall_mem_cons] at hk; go_simp)); try (with_reducible rfl)
        refine ⟨.inl ⟨by rfl, opOk_call (f := 27) (args := ?a33) (fun wS hS => ?_) (fun wS hS => ?_)⟩, ?_⟩
        rotate_left 1
        · ((have hk := hS.1.facts; simp only [List.forall_mem_cons] at hk; go_simp)); try (with_reducible rfl)
        · refine (rside_any _ _ _ _ _ _ _).mono ?_
          rintro e' w2 ⟨rfl, hb⟩
          refine ⟨?_, ⟨hS.1.keep hb, hS.2.1.keep hb, hS.2.2.keep hb⟩⟩
          rfl
        refine ⟨.inl ⟨by rfl, opOk_pure fun wS hS => ?_⟩, ?_⟩
        · ((have hk := hS.1.facts; simp only [List.forall_mem_cons] at hk; go_simp)); try (with_reducible rfl)
        refine ⟨.inl ⟨by rfl, opOk_pure fun wS hS => ?_⟩, ?_⟩
        · ((have hk := hS.1.facts; simp only [List.forall_mem_cons] at hk; go_simp)); try (with_reducible rfl)
        refine ⟨.inl ⟨by rfl, opOk_pure fun wS hS => ?_⟩, ?_⟩
        · ((have hk := hS.1.facts; simp only [List.forall_mem_cons] at hk; go_simp)); try (with_reducible rfl)
        trivial
      case hend =>
        intro wE hE
        simp only [OpsOk, fillT, List.setIfInBounds_toArray, List.set_cons_zero, List.set_cons_succ]
        go_wp2
        go_ret
        exact ⟨rfl, hE.1.2⟩
end Go.Proofs.Ytpmjigghboifdaa
