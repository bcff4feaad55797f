/- ChartNear: for every input the law returns true, and each argument reads behind the call as it read before. No condition. -/
import Derived.Test.YtpmjigghboifdaaEnd
import Derived.Test.YtpmjigghboifdaaNearLaw
import Derived.Test.YtpmjigghboifdaaOpenPairs
import Derived.Lib.SmallJoins
import Derived.Deep.Slices
import Derived.SliceStrings
namespace Go.Proofs.Ytpmjigghboifdaa.chartNear
open Go.ChangeShapes Go.WideShapes Go.ChangeAt Go.RowKit Go.Joins
set_option linter.unusedVariables false

theorem own : ownKnob Try.prog.godebug = none := by kernel_rfl

set_option maxRecDepth 100000 in
theorem lifted (os : Os) (started : os.Started) (H : Type) (enc : TypeId × Value → H) :
    ReturnsInHanded {} Try.checked os 8 .any (Rows.chartNearSpec.pre6 enc Try.prog Try.f8 Rows.chartNearRow.domain false) (Rows.chartNearSpec.post enc Try.prog Try.f8 false true false false) := by
  refine returnsInHanded_of_change_sized (C := Try.checked) own started (by kernel_rfl) Try.func8
    (ChangeSpec.witness6 (enc := enc) (C := Try.checked) false ⟨#[], #[.agg #[.int .i64 0, .int .i64 0], .agg #[.int .i64 0, .int .i64 0], .agg #[.int .i64 0, .int .i64 0], .slice none 0 0], []⟩ 8 (by kernel_rfl) (by kernel_rfl) (by kernel_rfl) (by kernel_rfl)) ?_
  intro W base args ds gs before hval0 hW hcnd hsz _
  have hval : ∀ (j : Nat) t v, Try.f8.params[j]? = some t → args[j]? = some v → Value.okWide Try.prog W .any base t v := hval0
  have hW' := hW
  obtain ⟨p, q, hA0, hV, rfl, hfz, hnd⟩ := hW
  have hA : DataW.TrodAll enc Try.prog W 0 (fun _ => true) true Try.f8.params.toList args.toList ds p := hA0
  rw [Try.params8] at hA hval
  obtain ⟨v0, vs0, d0, ds0, p0, q0, hargs, rfl, rfl, h0, r0⟩ := trodAll_cons hA
  obtain ⟨v1, vs1, d1, ds1, p1, q1, rfl, rfl, rfl, h1, r1⟩ := trodAll_cons r0
  obtain ⟨v2, vs2, d2, ds2, p2, q2, rfl, rfl, rfl, h2, r2⟩ := trodAll_cons r1
  obtain ⟨v3, vs3, d3, ds3, p3, q3, rfl, rfl, rfl, h3, r3⟩ := trodAll_cons r2
  obtain ⟨rfl, rfl, rfl⟩ := trodAll_nil r3
  obtain rfl : args = #[v0, v1, v2, v3] := by cases args; simp_all
  have hp0 : ∀ x ∈ p0, x.block < W.heap.size := fun x hx => hW'.lt x (by simp [hx])
  have hp1 : ∀ x ∈ p1, x.block < W.heap.size := fun x hx => hW'.lt x (by simp [hx])
  have hp2 : ∀ x ∈ p2, x.block < W.heap.size := fun x hx => hW'.lt x (by simp [hx])
  have hp3 : ∀ x ∈ p3, x.block < W.heap.size := fun x hx => hW'.lt x (by simp [hx])
  obtain ⟨c00, c01, y00, y01, m0, rfl, rfl, rfl, hy00, hy01⟩ := open_agg2 Try.underlying29 (by kernel_rfl) (show Try.prog.cellsOf 29 = 2 from by kernel_rfl) (hval 0 29 v0 rfl rfl) h0
  obtain ⟨x0, ex0, rfl, wx0⟩ := DataW.trod_int Try.underlying3 hy00
  obtain ⟨z0, ez0, rfl, wz0⟩ := DataW.trod_int Try.underlying3 hy01
  simp only [List.cons.injEq, and_true] at ex0 ez0
  subst ex0 ez0
  obtain ⟨c10, c11, y10, y11, m1, rfl, rfl, rfl, hy10, hy11⟩ := open_agg2 Try.underlying29 (by kernel_rfl) (show Try.prog.cellsOf 29 = 2 from by kernel_rfl) (hval 1 29 v1 rfl rfl) h1
  obtain ⟨x1, ex1, rfl, wx1⟩ := DataW.trod_int Try.underlying3 hy10
  obtain ⟨z1, ez1, rfl, wz1⟩ := DataW.trod_int Try.underlying3 hy11
  simp only [List.cons.injEq, and_true] at ex1 ez1
  subst ex1 ez1
  obtain ⟨c20, c21, y20, y21, m2, rfl, rfl, rfl, hy20, hy21⟩ := open_agg2 Try.underlying29 (by kernel_rfl) (show Try.prog.cellsOf 29 = 2 from by kernel_rfl) (hval 2 29 v2 rfl rfl) h2
  obtain ⟨x2, ex2, rfl, wx2⟩ := DataW.trod_int Try.underlying3 hy20
  obtain ⟨z2, ez2, rfl, wz2⟩ := DataW.trod_int Try.underlying3 hy21
  simp only [List.cons.injEq, and_true] at ex2 ez2
  subst ex2 ez2
  obtain ⟨L3, A3, cp3, rfl, rw3, wf3, dl3⟩ := open_pairs Try.underlying44 Try.underlying29 (show Try.prog.cellsOf 29 = 2 from by kernel_rfl) rfl rfl (by kernel_rfl) (by kernel_rfl) Try.underlying3 Try.underlying3 (hval 3 44 v3 rfl rfl) h3
  have hn3 : L3.length * 16 ≤ 140737488355328 := sized_elems hsz (j := 3) (t := 44) rfl rfl Try.underlying44 (by kernel_rfl) (dl3.imp (fun h => by rw [h.2]; rfl) id)
  refine (nearlaw_any x0 z0 x1 z1 x2 z2 L3 A3 cp3 W rw3).mono fun e W' ⟨he, hb⟩ => ?_
  subst he
  exact ⟨_, rfl, law_post laidOut (by kernel_rfl) rfl rfl Try.underlying4 (fun l hl => by match l, hl with | [e0, e1, e2, e3], _ => rfl) hW' hb⟩

theorem over : Rows.chartNearRow.holds Try.pinned (OpenSpec.ofChange Rows.chartNearSpec) :=
  OpenClaim.holds_of_wide 8 Try.f8 rfl rfl rfl rfl rfl rfl rfl ⟨rfl, rfl, rfl, rfl, rfl⟩ rfl rfl rfl rfl rfl (by kernel_rfl) Try.func8 (by kernel_rfl)
    (of_decide_eq_true (by kernel_rfl)) (by unfold Func.isWrapper; first | (rw [if_pos (by decide +kernel)]; kernel_rfl) | (rw [if_neg (by decide +kernel)]; exact ⟨rfl, rfl⟩))
    (fun os started H enc _ => lifted os started H enc)

theorem proved : Rows.ChartNearSaid :=
  over
#print axioms proved
end Go.Proofs.Ytpmjigghboifdaa.chartNear
