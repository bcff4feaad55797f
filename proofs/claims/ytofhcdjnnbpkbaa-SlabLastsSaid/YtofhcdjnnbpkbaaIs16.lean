/- Walk over: is a slab the document's? -/
import Derived.Test.YtofhcdjnnbpkbaaDoes
namespace Go.Proofs.Ytofhcdjnnbpkbaa
set_option linter.unusedVariables false
set_option linter.unusedSimpArgs false
set_option linter.unnecessarySimpa false
open Go.RowKit

theorem app_at {α : Type} {l m : List α} {i : Nat} {a : α} (h : l[i]? = some a) : (l ++ m)[i]? = some a := by
  rw [List.getElem?_append_left (List.getElem?_eq_some_iff.1 h).1]; exact h
theorem refA_cells {w : World} {m : Nat} {st : St} {F : Nat → Prop} (h : (refA m st).sat F w) : ∃ As cs Al cl, cellFacts w m 0 [.slice As st.S.length cs, .slice Al st.L.length cl, .int .i64 st.fuse, .int .i64 st.steps, .bool st.down] ∧ m < w.heap.size := by
  obtain ⟨As, cs, Al, cl, hS⟩ := refA_open (Sat.ofOne h)
  have hk := hS.all
  simp only [List.cons_append, List.nil_append, allFacts, box_facts] at hk
  exact ⟨As, cs, Al, cl, hk.1⟩

set_option maxRecDepth 100000 in
set_option maxHeartbeats 2000000 in
theorem is_sat {w0 w : World} {l : List Asn} (h : Sat w0 w l) {i j g m : Nat} {st : St} (hi : l[i]? = some (slabA g st)) (hj : l[j]? = some (refA m st)) {n : Int} (ok : st.In n) (hn : n ≤ 4611686018427387904) :
    Calls Try.prog 18 #[.pointer (some ⟨g, 0, none⟩), .pointer (some ⟨m, 0, none⟩)] w fun e w' => e = .returned (.bool true) ∧ Sat w0 w' l := by
  have HR := Lib.hid (read_sat h hi ok hn)
  have hcv : ∀ (w : World) (B : Nat) (c : Nat) (A : Option Addr) (n : Nat) (xs : List Int), w.ownsRow B 5 1 (.slice A n c) n (bytesOf xs) → (convert 25 9 (.slice A n c)).run Try.prog w = .ok (.string (strOfNums xs)) w :=
    fun w B c A n xs h => conv_row _ _ _ Try.underlying25 Try.underlying5 Try.underlying9 h
  have HCV := Lib.hid hcv
  have HI := Lib.hid hi
  have HJ := Lib.hid hj
  clear hcv hi hj
  go_enter Try.func18, Try.ntmps18
  go_wp2_with fail
  refine HR.out.mono ?_
  rintro e w1 ⟨A1, c1, rfl, h1⟩
  obtain ⟨F1, hF1⟩ := h1.get (app_at HJ.out)
  go_wp2_with fail
  refine (rread_any w1 m st (ok.ok hn) F1 hF1).mono ?_
  rintro e w2 ⟨v, rfl, hr, hb⟩
  obtain ⟨A2, c2, rfl, -⟩ := row_slice hr
  have h2 := h1.pushRow hr hb
  have v1 := HCV.out w2.drew 0 c1 A1 (rdS st).length (rdS st) (h2.drew.rowOf (i := l.length) (by simp))
  have v2 := HCV.out w2.drew w1.heap.size c2 A2 _ _ (show w2.drew.ownsRow w1.heap.size 5 1 (.slice A2 (rdS st).length c2) (rdS st).length (bytesOf (rdS st)) from hr)
  have h3 : Sat w0 w2 l := (h2.left).left
  obtain ⟨F2, hF2⟩ := h3.drew.get HJ.out
  obtain ⟨As, cs, Al, cl, hc, hlt⟩ := refA_cells hF2
  simp only [cellFacts, Nat.zero_add, Nat.reduceAdd, and_true] at hc
  have HL := Lib.hid (loose_sat h3.drew HI.out)
  have HS := Lib.hid (steps_sat h3.drew HI.out)
  have HD := Lib.hid (down_sat h3.drew HI.out)
  have H3 := Lib.hid h3
  clear h h1 h2 h3 hr hb HR
  go_wp2_with fail
  refine region_flow (S := fun w' => w' = w2.drew) (vs := [?va0, ?va1, ?va2, ?va3, ?va4, ?va5, ?va6, ?va7, ?va8, ?va9, ?va10, ?va11, ?va12, ?va13, ?va14, ?va15, ?va16, ?va17, ?va18, ?va19, ?va20, ?va21, ?va22, ?va23, ?va24, ?va25, ?va26, ?va27, ?va28, ?va29, ?va30, ?va31, ?va32, ?va33, ?va34, ?va35, ?va36, ?va37, ?va38]) (by kernel_rfl) (by kernel_rfl) (by kernel_rfl) (by kernel_rfl) (by kernel_rfl) rfl ?hSa ?hopsa ?henda
  case hSa => exact rfl
  case hopsa =>
    simp only [OpsOk, fillT, List.setIfInBounds_toArray, List.set_cons_zero, List.set_cons_succ]
    refine ⟨.inl ⟨by rfl, opOk_pure fun wS hS => ?_⟩, ?_⟩
    · ((subst hS; go_simp; try simp only [beq_self_eq_true])); try (with_reducible rfl)
    refine ⟨.inl ⟨by rfl, opOk_pure fun wS hS => ?_⟩, ?_⟩
    · ((subst hS; go_simp; try simp only [beq_self_eq_true])); try (with_reducible rfl)
    refine ⟨.inl ⟨by rfl, opOk_pure fun wS hS => ?_⟩, ?_⟩
    · ((subst hS; go_simp; try simp only [beq_self_eq_true])); try (with_reducible rfl)
    refine ⟨.inl ⟨by rfl, opOk_pure fun wS hS => ?_⟩, ?_⟩
    · ((subst hS; go_simp; try simp only [beq_self_eq_true])); try (with_reducible rfl)
    refine ⟨.inl ⟨by rfl, opOk_pure fun wS hS => ?_⟩, ?_⟩
    · ((subst hS; go_simp; try simp only [beq_self_eq_true])); try (with_reducible rfl)
    refine ⟨.inl ⟨by rfl, opOk_pure fun wS hS => ?_⟩, ?_⟩
    · ((subst hS; go_simp; try simp only [beq_self_eq_true])); try (with_reducible rfl)
    refine ⟨.inl ⟨by rfl, opOk_pure fun wS hS => ?_⟩, ?_⟩
    · ((subst hS; go_simp; try simp only [beq_self_eq_true])); try (with_reducible rfl)
    refine ⟨.inl ⟨by rfl, opOk_pure fun wS hS => ?_⟩, ?_⟩
    · ((subst hS; go_simp; try simp only [beq_self_eq_true])); try (with_reducible rfl)
    refine ⟨.inl ⟨by rfl, opOk_pure fun wS hS => ?_⟩, ?_⟩
    · ((subst hS; go_simp; try simp only [beq_self_eq_true])); try (with_reducible rfl)
    refine ⟨.inl ⟨by rfl, opOk_pure fun wS hS => ?_⟩, ?_⟩
    · ((subst hS; go_simp; try simp only [beq_self_eq_true])); try (with_reducible rfl)
    refine ⟨.inl ⟨by rfl, opOk_pure fun wS hS => ?_⟩, ?_⟩
    · ((subst hS; go_simp; try simp only [beq_self_eq_true])); try (with_reducible rfl)
    refine ⟨.inl ⟨by rfl, opOk_pure fun wS hS => ?_⟩, ?_⟩
    · ((subst hS; go_simp; try simp only [beq_self_eq_true])); try (with_reducible rfl)
    refine ⟨.inl ⟨by rfl, opOk_call (f := 14) (args := ?aa12) (fun wS hS => ?_) (fun wS hS => ?_)⟩, ?_⟩
    rotate_left 1
    · ((subst hS; go_simp; try simp only [beq_self_eq_true])); try (with_reducible rfl)
    · subst hS
      refine HL.out.mono ?_
      rintro e w' ⟨rfl, rfl⟩
      refine ⟨?_, rfl⟩
      with_reducible rfl
    refine ⟨.inl ⟨by rfl, opOk_pure fun wS hS => ?_⟩, ?_⟩
    · ((subst hS; go_simp; try simp only [beq_self_eq_true])); try (with_reducible rfl)
    refine ⟨.inl ⟨by rfl, opOk_pure fun wS hS => ?_⟩, ?_⟩
    · ((subst hS; go_simp; try simp only [beq_self_eq_true])); try (with_reducible rfl)
    refine ⟨.inl ⟨by rfl, opOk_pure fun wS hS => ?_⟩, ?_⟩
    · ((subst hS; go_simp; try simp only [beq_self_eq_true])); try (with_reducible rfl)
    refine ⟨.inl ⟨by rfl, opOk_pure fun wS hS => ?_⟩, ?_⟩
    · ((subst hS; go_simp; try simp only [beq_self_eq_true])); try (with_reducible rfl)
    refine ⟨.inl ⟨by rfl, opOk_pure fun wS hS => ?_⟩, ?_⟩
    · ((subst hS; go_simp; try simp only [beq_self_eq_true])); try (with_reducible rfl)
    refine ⟨.inl ⟨by rfl, opOk_pure fun wS hS => ?_⟩, ?_⟩
    · ((subst hS; go_simp; try simp only [beq_self_eq_true])); try (with_reducible rfl)
    refine ⟨.inl ⟨by rfl, opOk_pure fun wS hS => ?_⟩, ?_⟩
    · ((subst hS; go_simp; try simp only [beq_self_eq_true])); try (with_reducible rfl)
    refine ⟨.inl ⟨by rfl, opOk_pure fun wS hS => ?_⟩, ?_⟩
    · ((subst hS; go_simp; try simp only [beq_self_eq_true])); try (with_reducible rfl)
    refine ⟨.inl ⟨by rfl, opOk_pure fun wS hS => ?_⟩, ?_⟩
    · ((subst hS; go_simp; try simp only [beq_self_eq_true])); try (with_reducible rfl)
    refine ⟨.inl ⟨by rfl, opOk_call (f := 19) (args := ?aa22) (fun wS hS => ?_) (fun wS hS => ?_)⟩, ?_⟩
    rotate_left 1
    · ((subst hS; go_simp; try simp only [beq_self_eq_true])); try (with_reducible rfl)
    · subst hS
      refine HS.out.mono ?_
      rintro e w' ⟨rfl, rfl⟩
      refine ⟨?_, rfl⟩
      with_reducible rfl
    refine ⟨.inl ⟨by rfl, opOk_pure fun wS hS => ?_⟩, ?_⟩
    · ((subst hS; go_simp; try simp only [beq_self_eq_true])); try (with_reducible rfl)
    refine ⟨.inl ⟨by rfl, opOk_pure fun wS hS => ?_⟩, ?_⟩
    · ((subst hS; go_simp; try simp only [beq_self_eq_true])); try (with_reducible rfl)
    refine ⟨.inl ⟨by rfl, opOk_pure fun wS hS => ?_⟩, ?_⟩
    · ((subst hS; go_simp; try simp only [beq_self_eq_true])); try (with_reducible rfl)
    refine ⟨.inl ⟨by rfl, opOk_pure fun wS hS => ?_⟩, ?_⟩
    · ((subst hS; go_simp; try simp only [beq_self_eq_true])); try (with_reducible rfl)
    refine ⟨.inl ⟨by rfl, opOk_pure fun wS hS => ?_⟩, ?_⟩
    · ((subst hS; go_simp; try simp only [beq_self_eq_true])); try (with_reducible rfl)
    refine ⟨.inl ⟨by rfl, opOk_pure fun wS hS => ?_⟩, ?_⟩
    · ((subst hS; go_simp; try simp only [beq_self_eq_true])); try (with_reducible rfl)
    refine ⟨.inl ⟨by rfl, opOk_pure fun wS hS => ?_⟩, ?_⟩
    · ((subst hS; go_simp; try simp only [beq_self_eq_true])); try (with_reducible rfl)
    refine ⟨.inl ⟨by rfl, opOk_pure fun wS hS => ?_⟩, ?_⟩
    · ((subst hS; go_simp; try simp only [beq_self_eq_true])); try (with_reducible rfl)
    refine ⟨.inl ⟨by rfl, opOk_call (f := 20) (args := ?aa31) (fun wS hS => ?_) (fun wS hS => ?_)⟩, ?_⟩
    rotate_left 1
    · ((subst hS; go_simp; try simp only [beq_self_eq_true])); try (with_reducible rfl)
    · subst hS
      refine HD.out.mono ?_
      rintro e w' ⟨rfl, rfl⟩
      refine ⟨?_, rfl⟩
      with_reducible rfl
    refine ⟨.inl ⟨by rfl, opOk_pure fun wS hS => ?_⟩, ?_⟩
    · ((subst hS; go_simp; try simp only [beq_self_eq_true])); try (with_reducible rfl)
    refine ⟨.inl ⟨by rfl, opOk_pure fun wS hS => ?_⟩, ?_⟩
    · ((subst hS; go_simp; try simp only [beq_self_eq_true])); try (with_reducible rfl)
    refine ⟨.inl ⟨by rfl, opOk_pure fun wS hS => ?_⟩, ?_⟩
    · ((subst hS; go_simp; try simp only [beq_self_eq_true])); try (with_reducible rfl)
    refine ⟨.inl ⟨by rfl, opOk_pure fun wS hS => ?_⟩, ?_⟩
    · ((subst hS; go_simp; try simp only [beq_self_eq_true])); try (with_reducible rfl)
    refine ⟨.inl ⟨by rfl, opOk_pure fun wS hS => ?_⟩, ?_⟩
    · ((subst hS; go_simp; try simp only [beq_self_eq_true])); try (with_reducible rfl)
    refine ⟨.inl ⟨by rfl, opOk_pure fun wS hS => ?_⟩, ?_⟩
    · ((subst hS; go_simp; try simp only [beq_self_eq_true])); try (with_reducible rfl)
    refine ⟨.inl ⟨by rfl, opOk_pure fun wS hS => ?_⟩, ?_⟩
    · ((subst hS; go_simp; try simp only [beq_self_eq_true])); try (with_reducible rfl)
    trivial
  case henda =>
    intro wE hE
    simp only [OpsOk, fillT, List.setIfInBounds_toArray, List.set_cons_zero, List.set_cons_succ]
    subst hE
    go_wp2
    go_ret
    exact ⟨rfl, H3.out.drew⟩
end Go.Proofs.Ytofhcdjnnbpkbaa
