/- IdealBacks: for every input the law returns true, and each argument reads behind the call as it read before. No condition. -/
import Derived.Test.YtecgpkjigbhneaaEnd
import Derived.Test.YtecgpkjigbhneaaLawBacks24
import Derived.Test.YtecgpkjigbhneaaReadOp
import Derived.Lib.SmallJoins
import Derived.Deep.Slices
import Derived.SliceStrings
namespace Go.Proofs.Ytecgpkjigbhneaa.idealBacks
set_option linter.unusedSimpArgs false
set_option linter.unnecessarySimpa false
open Go.ChangeShapes Go.WideShapes Go.ChangeAt Go.RowKit Go.Joins
set_option linter.unusedVariables false

theorem own : ownKnob Try.prog.godebug = none := by kernel_rfl

set_option maxRecDepth 100000 in
theorem lifted (os : Os) (started : os.Started) (H : Type) (enc : TypeId × Value → H) :
    ReturnsInHanded {} Try.checked os 4 .any (Rows.idealBacksSpec.pre6 enc Try.prog Try.f4 Rows.idealBacksRow.domain false) (Rows.idealBacksSpec.post enc Try.prog Try.f4 false true false false) := by
  refine returnsInHanded_of_change_sized (C := Try.checked) own started (by kernel_rfl) Try.func4
    (ChangeSpec.witness6 (enc := enc) (C := Try.checked) false ⟨#[], #[.slice none 0 0, .slice none 0 0, .agg #[.int .i64 0, .int .i64 0, .int .i64 0, .int .u64 0, .int .u64 0, .int .u64 0, .slice none 0 0, .slice none 0 0, .bool false]], []⟩ 8 (by kernel_rfl) (by kernel_rfl) (by kernel_rfl) (by kernel_rfl)) ?_
  intro W base args ds gs before hval0 hW hcnd hsz _
  have hval : ∀ (j : Nat) t v, Try.f4.params[j]? = some t → args[j]? = some v → Value.okWide Try.prog W .any base t v := hval0
  have hW' := hW
  obtain ⟨p, q, hA0, hV, rfl, hfz, hnd⟩ := hW
  have hA : DataW.TrodAll enc Try.prog W 0 (fun _ => true) true Try.f4.params.toList args.toList ds p := hA0
  rw [Try.params4] at hA hval
  obtain ⟨v0, vs0, d0, ds0, p0, q0, hargs, rfl, rfl, h0, r0⟩ := trodAll_cons hA
  obtain ⟨v1, vs1, d1, ds1, p1, q1, rfl, rfl, rfl, h1, r1⟩ := trodAll_cons r0
  obtain ⟨v2, vs2, d2, ds2, p2, q2, rfl, rfl, rfl, h2, r2⟩ := trodAll_cons r1
  obtain ⟨rfl, rfl, rfl⟩ := trodAll_nil r2
  obtain rfl : args = #[v0, v1, v2] := by cases args; simp_all
  have hp0 : ∀ x ∈ p0, x.block < W.heap.size := fun x hx => hW'.lt x (by simp [hx])
  have hp1 : ∀ x ∈ p1, x.block < W.heap.size := fun x hx => hW'.lt x (by simp [hx])
  have hp2 : ∀ x ∈ p2, x.block < W.heap.size := fun x hx => hW'.lt x (by simp [hx])
  obtain ⟨a0, l0, c0, rfl⟩ := okWide_slice Try.underlying22 (hval 0 22 v0 rfl rfl)
  obtain ⟨x0, hx0⟩ := reads_arg (j := 0) (reads_slice Try.underlying22 (by kernel_rfl) (by kernel_rfl) (by decide) (reads_int Try.underlying23 (by kernel_rfl))) h0 hsz rfl rfl
  obtain ⟨e0, rn0, ru0⟩ := recs_u64 hx0
  simp only [Value.cells, List.cons.injEq, and_true, Value.slice.injEq] at e0
  obtain ⟨rfl, rfl, rfl⟩ := e0
  obtain ⟨a1, l1, c1, rfl⟩ := okWide_slice Try.underlying38 (hval 1 38 v1 rfl rfl)
  obtain ⟨x1, hx1⟩ := reads_arg (j := 1) (reads_slice Try.underlying38 (by kernel_rfl) (by kernel_rfl) (by decide) reads_op) h1 hsz rfl rfl
  obtain ⟨e1, rn1, ro1⟩ := ops_of hx1
  simp only [Value.cells, List.cons.injEq, and_true, Value.slice.injEq] at e1
  obtain ⟨rfl, rfl, rfl⟩ := e1
  obtain ⟨cs2, rfl, z2⟩ := okWide_struct Try.underlying40 (hval 2 40 v2 rfl rfl)
  obtain ⟨x2, hx2⟩ := reads_arg (j := 2) reads_op h2 hsz rfl rfl
  obtain ⟨eq2, ro2⟩ := op_of hx2
  obtain rfl : cs2 = #[.int .i64 ((opOf x2).kind), .int .i64 ((opOf x2).a), .int .i64 ((opOf x2).b), .int .u64 ((opOf x2).n), .int .u64 ((opOf x2).m), .int .u64 ((opOf x2).id), .slice ((opOf x2).Ar) ((opOf x2).E.length) ((opOf x2).cr), .slice ((opOf x2).As) ((opOf x2).A.length) ((opOf x2).cs), .bool ((opOf x2).y)] := Array.toList_inj.1 eq2
  refine (backs24_law W _ _ _ rn0 ru0 _ _ _ rn1 ro1 _ ro2).mono fun e W' ⟨he, hb⟩ => ?_
  subst he
  exact ⟨_, rfl, law_post laidOut (by kernel_rfl) rfl rfl Try.underlying4 (fun l hl => by match l, hl with | [e0, e1, e2], _ => rfl) hW' hb⟩

theorem over : Rows.idealBacksRow.holds Try.pinned (OpenSpec.ofChange Rows.idealBacksSpec) :=
  OpenClaim.holds_of_wide 4 Try.f4 rfl rfl rfl rfl rfl rfl rfl ⟨rfl, rfl, rfl, rfl, rfl⟩ rfl rfl rfl rfl rfl (by kernel_rfl) Try.func4 (by kernel_rfl)
    (of_decide_eq_true (by kernel_rfl)) (by unfold Func.isWrapper; first | (rw [if_pos (by decide +kernel)]; kernel_rfl) | (rw [if_neg (by decide +kernel)]; exact ⟨rfl, rfl⟩))
    (fun os started H enc _ => lifted os started H enc)

theorem proved : Rows.IdealBacksSaid :=
  over
#print axioms proved
end Go.Proofs.Ytecgpkjigbhneaa.idealBacks
