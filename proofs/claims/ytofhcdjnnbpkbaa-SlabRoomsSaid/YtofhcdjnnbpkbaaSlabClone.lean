/- Walks over Erase and slices.Clone. -/
import Derived.Test.YtofhcdjnnbpkbaaSlabSync
import Derived.Laws.OwnMore
import Derived.Lib.SliceRun
namespace Go.Proofs.Ytofhcdjnnbpkbaa
set_option linter.unusedVariables false
set_option linter.unusedSimpArgs false
set_option linter.unnecessarySimpa false
open Go.RowKit

def erS (st : St) : St := if st.down then st else ⟨if st.fuse = 0 then st.S else [], if st.fuse = 0 then st.L else [], stS st.steps st.fuse, stF st.fuse, stD st.fuse st.down⟩

set_option maxRecDepth 100000 in
theorem erase_any (w : World) (B g : Nat) (F : Nat → Prop) (st : St) (h : SlabF w B g F st) (ok : st.Ok) :
    Calls Try.prog 11 #[.pointer (some ⟨g, 0, none⟩)] w fun e w' => e = .returned (.int .i64 (syE st)) ∧ ∃ F', SlabF w' B g F' (erS st) ∧ Moves F F' w w' := by
  obtain ⟨S, L, steps, fuse, down⟩ := st
  obtain ⟨vs, vl, rfl, hs⟩ := h
  obtain ⟨o1, o2, o3, o4, o5⟩ := ok
  dsimp only at *
  obtain ⟨As, cs, rfl, -, -⟩ := row_val hs.sure
  obtain ⟨Al, cl, rfl, -, -⟩ := row_val hs.loose
  obtain ⟨c0, c1, c2, c3, c4, f0, f1, f2, f3, f4, hg⟩ := hs.cells
  have HS := Lib.hid hs
  have HU := Lib.hid (up_any w g down c4)
  have HT := Lib.hid (step_any w B g _ _ S L steps fuse down hs o1 o2 o3 o4)
  clear hs
  cases down with
  | true =>
    go_enter Try.func11, Try.ntmps11
    go_wp2_with fail
    refine HU.out.mono ?_
    rintro e w1 ⟨rfl, rfl⟩
    go_wp2
    go_ret
    exact ⟨rfl, _, ⟨_, _, rfl, HS.out⟩, Moves.refl _ _⟩
  | false =>
    go_enter Try.func11, Try.ntmps11
    go_wp2_with fail
    refine HU.out.mono ?_
    rintro e w1 ⟨rfl, rfl⟩
    go_wp2_with fail
    refine HT.out.mono ?_
    rintro e w2 ⟨rfl, hT, hC⟩
    obtain ⟨d0, d1, d2, d3, d4, g0, g1, g2, g3, g4, hg'⟩ := hT.cells
    have hM : Moves (Foot g (.slice As S.length cs) (.slice Al L.length cl)) (Foot g (.slice As S.length cs) (.slice Al L.length cl)) w1 w2 := ⟨hC.mono fun k _ hk => .inl hk, fun _ h => .inl h⟩
    have HM := Lib.hid hM
    have HT1 := Lib.hid hT
    clear hT hC hM HT HU c0 c1 c2 c3 c4 f0 f1 f2 f3 f4
    rcases (show fuse = 0 ∨ fuse ≠ 0 by omega) with h0 | h0
    · subst h0
      go_wp2
      go_ret
      exact ⟨rfl, _, ⟨_, _, rfl, HT1.out⟩, HM.out⟩
    · have e3 : stE fuse = 0 := if_neg h0
      have e4 : erS ⟨S, L, steps, fuse, false⟩ = ⟨[], [], stS steps fuse, stF fuse, stD fuse false⟩ := by unfold erS; simp [h0]
      have e5 : syE ⟨S, L, steps, fuse, false⟩ = 0 := by unfold syE; simp [e3]
      rw [e3]
      have E4 := Lib.hid e4
      have E5 := Lib.hid e5
      clear e3 e4 e5
      go_wp2
      go_ret
      rw [E4.out, E5.out]
      exact ⟨rfl, _, ⟨_, _, rfl, HT1.out.setSureNil.setLooseNil⟩, HM.out.trans ⟨((Chg.refl _ _).setCell (.inl (.inl rfl)) _).setCell (.inl (.inl rfl)) _, fun k hk => .inl (by rcases hk with rfl | hk | hk; exact .inl rfl; cases hk; cases hk)⟩⟩

set_option maxRecDepth 100000 in
theorem clone_any (w : World) (B : Nat) (A : Option Addr) (c : Nat) (xs : List Int) (hA : A = none → xs.length = 0 ∧ c = 0) (hsrc : SrcOf w A (xs.map (Value.int .u8))) (hl : xs.length ≤ 140737488355328) (hB : B ≤ w.heap.size) :
    Calls Try.prog 23 #[.slice A xs.length c] w fun e w' => ∃ v, e = .returned v ∧ w'.ownsRow B 5 1 v xs.length (xs.map (Value.int .u8)) ∧ Chg (fun _ => False) w w' ∧ ∀ k, v.ownBlock = some k → w.heap.size ≤ k := by
  have HR := Lib.hid hsrc
  have q : ∀ (w : World) (a : Option Addr) (n c n' c' : Nat), (binOp .eql 25 (.slice a n c) (.slice none n' c')).run Try.prog w = .ok (.bool a.isNone) w := fun w a n c n' c' => Lib.run_eql_slice_nil w _ _ a n c n' c' Try.underlying25
  cases A with
  | none =>
    obtain ⟨h1, rfl⟩ := hA rfl
    obtain rfl : xs = [] := List.eq_nil_of_length_eq_zero h1
    clear hA hsrc h1 HR
    show Calls _ _ #[.slice none 0 0] w _
    go_enter Try.func23, Try.ntmps23
    go_wp2
    go_ret
    exact ⟨_, rfl, World.ownsRow_nil _ _ _ _, Chg.refl _ _, fun _ h => by cases h⟩
  | some ad =>
    clear hA hsrc
    go_enter Try.func23, Try.ntmps23
    go_wp2_with (first
      | (at_builtin; refine wpList_append_row rfl _ _ 25 rfl B 5 (.int .u8 0) 1 1 Try.underlying25 info_u8 rfl (by decide) (.slice (some ⟨w.heap.size, 0, none⟩) 0 0) 0 [] ?a0 ?a8 (some ad) xs.length c (xs.map (Value.int .u8)) ?a1 ?a9 ?a2 ?a10 ?a3 ?a4 ?a5 ?a6 ?a7)
      | fail)
    case a0 => rfl
    case a1 => rfl
    case a8 => exact World.ownsRow_lit w #[] 0 hB (by decide) rfl
    case a9 => intro h; cases h
    case a2 => simp
    case a10 =>
      intro ad' had j u hj
      have h1 := HR.out ad' had j u hj
      exact (World.cell?_alloc_lt (a := ad'.add j) w _ (cell_lt h1)).trans h1
    case a3 => intro u hu; simp at hu; obtain ⟨x, _, rfl⟩ := hu; rfl
    case a4 => unfold maxLen; omega
    case a5 => omega
    case a6 => simp; omega
    case a7 =>
      intro v' w3 hown hgr hat
      obtain ⟨A', c', rfl, -, -⟩ := row_val hown
      have hC : Chg (fun _ => False) w w3 := ((Chg.refl _ _).alloc _).grown hgr fun k hk => .inr (by simp [Value.ownBlock] at hk; omega)
      have hk : ∀ k, (Value.slice A' xs.length c').ownBlock = some k → w.heap.size ≤ k := by
        intro k hk
        rcases hat with e | e
        · rw [e] at hk; simp [Value.ownBlock] at hk; omega
        · rw [e] at hk; simp at hk; omega
      have HO := Lib.hid hown
      have HC := Lib.hid hC
      have HK := Lib.hid hk
      clear hown hC hk hgr hat
      go_wp2
      go_ret
      exact ⟨_, rfl, HO.out, HC.out, HK.out⟩
end Go.Proofs.Ytofhcdjnnbpkbaa
