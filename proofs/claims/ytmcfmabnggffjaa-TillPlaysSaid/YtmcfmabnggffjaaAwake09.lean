/- Walk over the law's example. -/
import Derived.Test.YtmcfmabnggffjaaTillNils
namespace Go.Proofs.Ytmcfmabnggffjaa
set_option linter.unusedVariables false
set_option linter.unusedSimpArgs false
set_option linter.unnecessarySimpa false
open Go.RowKit

set_option maxRecDepth 100000 in
set_option maxHeartbeats 1000000 in
theorem awake_any (w : World) : Calls Try.prog 8 #[] w fun e w' => e = .returned (.bool true) ∧ Below w.heap.size w w' := by
  have h0 := (Sat.pushRest w).alloc #[.int .u64 5, .int .u64 3] 23
  try simp only [List.cons_append, List.nil_append, List.set_cons_succ, List.set_cons_zero] at h0
  have hu : U64s [5, 3] := fun a ha => by simp at ha; omega
  have HN := Lib.hid (new_ok _ (some ⟨w.heap.size, 0, none⟩) 2 [5, 3] ⟨(fun h => by cases h), box_src h0 (i := 1) rfl, hu, by decide⟩ (by decide))
  have o0 := tl0_ok hu (by decide) (by decide)
  have e1 : keepE (tl0 [5, 3]) 0 2 = 0 := by decide
  obtain ⟨t0, ht0⟩ : ∃ t0, tl0 [5, 3] = t0 := ⟨_, rfl⟩
  have o1 := (o0.keep 0 2 (by decide)).1
  have o2 := (o1.give 1 1 (by decide)).1
  have e2 : giveE (keepS (tl0 [5, 3]) 0 2) 1 1 = 0 := by decide
  have v0 : (if (giveS (keepS (tl0 [5, 3]) 0 2) 1 1).inB 0 then (giveS (keepS (tl0 [5, 3]) 0 2) 1 1).has.getD (0 : Int).toNat 0 else 0) = 3 := by decide
  have v1 : (if (giveS (keepS (tl0 [5, 3]) 0 2) 1 1).inB 1 then (giveS (keepS (tl0 [5, 3]) 0 2) 1 1).has.getD (1 : Int).toNat 0 else 0) = 4 := by decide
  have v2 : (giveS (keepS (tl0 [5, 3]) 0 2) 1 1).kept = 1 := by decide
  rw [ht0] at HN o0 o1 o2 e1 e2 v0 v1 v2
  obtain ⟨t1, ht1⟩ : ∃ t1, keepS t0 0 2 = t1 := ⟨_, rfl⟩
  rw [ht1] at o1 o2 e2 v0 v1 v2
  obtain ⟨t2, ht2⟩ : ∃ t2, giveS t1 1 1 = t2 := ⟨_, rfl⟩
  rw [ht2] at o2 v0 v1 v2
  have H0 := Lib.hid h0
  have O0 := Lib.hid o0
  have O1 := Lib.hid o1
  have O2 := Lib.hid o2
  have E1 := Lib.hid (And.intro e1 ht1)
  have E2 := Lib.hid (And.intro e2 ht2)
  have V0 := Lib.hid v0
  have V1 := Lib.hid v1
  have V2 := Lib.hid v2
  clear h0 o0 o1 o2 e1 e2 v0 v1 v2 ht0 ht1 ht2 hu
  go_enter Try.func8, Try.ntmps8
  go_wp2_with fail
  refine (HN.out).mono ?_
  rintro e w2 ⟨m, rfl, h2⟩
  have h3 := H0.out.pushNew h2
  try simp only [List.cons_append, List.nil_append, List.set_cons_succ, List.set_cons_zero] at h3
  have H3 := Lib.hid h3
  clear h2 h3
  go_wp2_with fail
  refine (H3.out.call1 (i := 2) (A' := tillX 54 m t1) (Q := fun e => e = .returned (.int .i64 0)) rfl (fun F hF _ => by have := keep_any _ m t0 O0.out 0 2 ⟨by decide, by decide⟩ F hF; rwa [E1.out.1, E1.out.2] at this)).mono ?_
  rintro e w3 ⟨rfl, h4⟩
  try simp only [List.cons_append, List.nil_append, List.set_cons_succ, List.set_cons_zero] at h4
  have H4 := Lib.hid h4
  clear h4
  go_wp2_with fail
  refine (H4.out.call1 (i := 2) (A' := tillX 54 m t2) (Q := fun e => e = .returned (.int .i64 0)) rfl (fun F hF _ => by have := give_any _ m t1 O1.out 1 1 ⟨by decide, by decide⟩ F hF; rwa [E2.out.1, E2.out.2] at this)).mono ?_
  rintro e w4 ⟨rfl, h5⟩
  try simp only [List.cons_append, List.nil_append, List.set_cons_succ, List.set_cons_zero] at h5
  have H5 := Lib.hid h5
  clear h5
  obtain ⟨F5, f5⟩ := H5.out.get (i := 2) rfl
  have HF := Lib.hid f5
  clear f5
  go_wp2_with fail
  refine (has_any _ m t2 F5 HF.out O2.out 0).mono ?_
  rintro e w6 ⟨rfl, rfl⟩
  rw [V0.out]
  go_wp2_with fail
  refine (has_any _ m t2 F5 HF.out O2.out 1).mono ?_
  rintro e w6 ⟨rfl, rfl⟩
  rw [V1.out]
  go_wp2_with fail
  refine (kept_any _ m t2 F5 HF.out).mono ?_
  rintro e w6 ⟨rfl, rfl⟩
  rw [V2.out]
  have hb := H5.out.below (i := 0) rfl
  have HB := Lib.hid hb
  clear hb
  go_wp2
  go_ret
  exact ⟨rfl, HB.out⟩
end Go.Proofs.Ytmcfmabnggffjaa
