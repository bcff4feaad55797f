/- The slab's calls, among other things in memory. -/
import Derived.Test.YtofhcdjnnbpkbaaRefCrash
namespace Go.Proofs.Ytofhcdjnnbpkbaa
set_option linter.unusedVariables false
set_option linter.unusedSimpArgs false
set_option linter.unnecessarySimpa false
open Go.RowKit

/-- A slab at g. -/
def slabA (g : Nat) (st : St) : Asn where
  sat F w := SlabF w 0 g F st
  facts _ := True
  stay := by
    rintro F w w' ⟨vs, vl, rfl, h⟩ hk
    exact ⟨vs, vl, rfl, h.of_block fun k hk' => hk k hk'⟩
  lt := by
    rintro F w k ⟨vs, vl, rfl, h⟩ hk
    exact (h.lt hk).1
  out := fun _ _ _ => trivial
theorem slabA_facts {w : World} {g : Nat} {st : St} : (slabA g st).facts w = True := rfl
theorem slabA_has {w : World} {g : Nat} {st : St} {F : Nat → Prop} (h : (slabA g st).sat F w) : F g := by
  obtain ⟨vs, vl, rfl, _⟩ := h
  exact .inl rfl
def st0 : St := ⟨[], [], 0, -1, false⟩

/-- A state behind at most n steps. -/
structure St.In (st : St) (n : Int) : Prop where
  s0 : 0 ≤ st.steps
  s1 : st.steps ≤ n
  f0 : -9223372036854775808 ≤ st.fuse
  f1 : st.fuse ≤ 9223372036854775807
  sz : st.S.length + st.L.length ≤ 262144
theorem St.In.ok {st : St} {n : Int} (h : st.In n) (hn : n ≤ 4611686018427387904) : st.Ok := ⟨h.s0, by have := h.s1; omega, h.f0, h.f1, h.sz⟩
theorem st0_in : st0.In 0 := ⟨by decide, by decide, by decide, by decide, by decide⟩
theorem St.In.mono {st : St} {n m : Int} (h : st.In n) (hn : n ≤ m) : st.In m := ⟨h.s0, by have := h.s1; omega, h.f0, h.f1, h.sz⟩
theorem in_stp {steps fuse : Int} {n : Int} (h0 : 0 ≤ steps) (h1 : steps ≤ n) (f0 : -9223372036854775808 ≤ fuse) (f1 : fuse ≤ 9223372036854775807) :
    0 ≤ stS steps fuse ∧ stS steps fuse ≤ n + 1 ∧ -9223372036854775808 ≤ stF fuse ∧ stF fuse ≤ 9223372036854775807 := by
  unfold stS stF
  refine ⟨?_, ?_, ?_, ?_⟩ <;> split <;> omega
theorem St.In.app {st : St} {n : Int} (h : st.In n) (P : List Int) : (appS st P).In (n + 1) := by
  obtain ⟨a, b, c, d, e⟩ := h
  have := in_stp a b c d
  unfold appS
  split
  · exact ⟨a, by omega, c, d, e⟩
  · split
    · exact ⟨a, by omega, c, d, e⟩
    · refine ⟨this.1, this.2.1, this.2.2.1, this.2.2.2, ?_⟩
      dsimp only
      split
      · exact e
      · simp; omega
theorem St.In.syn {st : St} {n : Int} (h : st.In n) : (syS st).In (n + 1) := by
  obtain ⟨a, b, c, d, e⟩ := h
  have := in_stp a b c d
  unfold syS
  split
  · exact ⟨a, by omega, c, d, e⟩
  · refine ⟨this.1, this.2.1, this.2.2.1, this.2.2.2, ?_⟩
    dsimp only
    split
    · exact e
    · simp; omega
theorem St.In.ers {st : St} {n : Int} (h : st.In n) : (erS st).In (n + 1) := by
  obtain ⟨a, b, c, d, e⟩ := h
  have := in_stp a b c d
  unfold erS
  split
  · exact ⟨a, by omega, c, d, e⟩
  · refine ⟨this.1, this.2.1, this.2.2.1, this.2.2.2, ?_⟩
    dsimp only
    split
    · exact e
    · simp
theorem St.In.crs {st : St} {n : Int} (h : st.In n) (k z : Int) : (crS st k z).In n := by
  obtain ⟨a, b, c, d, e⟩ := h
  refine ⟨a, b, by show (-9223372036854775808 : Int) ≤ -1; omega, by show (-1 : Int) ≤ 9223372036854775807; omega, ?_⟩
  unfold crS zeroed kept
  simp
  omega
def fuS (st : St) (n : Int) : St := { st with fuse := fuF st.down st.fuse n }
theorem St.In.fus {st : St} {m : Int} (h : st.In m) {n : Int} (h1 : n ≤ 9223372036854775807) : (fuS st n).In m := by
  obtain ⟨a, b, c, d, e⟩ := h
  refine ⟨a, b, ?_, ?_, e⟩ <;> unfold fuS fuF <;> dsimp only <;> split <;> omega

section
variable {w0 w : World} {l : List Asn} {i g : Nat} {st : St} {n : Int}
theorem new_sat (h : Sat w0 w l) : Calls Try.prog 7 #[] w fun e w' => e = .returned (.pointer (some ⟨w.heap.size, 0, none⟩)) ∧ Sat w0 w' (l ++ [slabA w.heap.size st0]) := by
  refine (new_any w).mono ?_
  rintro e w' ⟨rfl, hs, hc⟩
  refine ⟨rfl, h.push (A := slabA w.heap.size st0) (F := Foot w.heap.size (.slice none 0 0) (.slice none 0 0)) ⟨_, _, rfl, ?_⟩ (fun k hk => ?_) ?_⟩
  · exact ⟨hs.blk, World.ownsRow_nil _ _ _ _, World.ownsRow_nil _ _ _ _, hs.apart, Nat.zero_le _⟩
  · rcases hk with rfl | hk | hk
    · exact Nat.le_refl _
    · cases hk
    · cases hk
  · exact ⟨hc.os, hc.tape, hc.output, hc.size, fun k hk => hc.block k hk fun h => h⟩
theorem rnew_sat (h : Sat w0 w l) : Calls Try.prog 16 #[] w fun e w' => e = .returned (.pointer (some ⟨w.heap.size, 0, none⟩)) ∧ Sat w0 w' (l ++ [refA w.heap.size st0]) := by
  go_enter Try.func16, Try.ntmps16
  go_wp2
  go_ret
  refine ⟨rfl, ?_⟩
  have h1 := ((h.alloc #[.slice none 0 0, .slice none 0 0, .int .i64 (-1), .int .i64 0, .bool false] 49).nilRow 5 1).nilRow 5 1
  have h2 := Sat.shut2 (l := l ++ [box w.heap.size 49 [.slice none 0 0, .slice none 0 0, .int .i64 (-1), .int .i64 0, .bool false]] ++ [row 5 1 (.slice none 0 0) 0 []]) (A := (box w.heap.size 49 [.slice none 0 0, .slice none 0 0, .int .i64 (-1), .int .i64 0, .bool false])) h1 (i := l.length) (by simp)
  rw [List.append_assoc, List.set_append_right _ _ (Nat.le_refl _), Nat.sub_self] at h2
  have h3 := Sat.shut2 (l := l ++ [star2 (box w.heap.size 49 [.slice none 0 0, .slice none 0 0, .int .i64 (-1), .int .i64 0, .bool false]) (row 5 1 (.slice none 0 0) 0 [])]) (B := row 5 1 (.slice none 0 0) 0 []) (A := star2 (box w.heap.size 49 [.slice none 0 0, .slice none 0 0, .int .i64 (-1), .int .i64 0, .bool false]) (row 5 1 (.slice none 0 0) 0 [])) (by simpa using h2) (i := l.length) (by simp)
  rw [List.set_append_right _ _ (Nat.le_refl _), Nat.sub_self] at h3
  have h4 := Sat.shut_some (f := fun p : (Option Addr × Nat) × (Option Addr × Nat) =>
    star2 (star2 (box w.heap.size 49 [.slice p.1.1 st0.S.length p.1.2, .slice p.2.1 st0.L.length p.2.2, .int .i64 st0.fuse, .int .i64 st0.steps, .bool st0.down])
      (row 5 1 (.slice p.2.1 st0.L.length p.2.2) st0.L.length (bytesOf st0.L))) (row 5 1 (.slice p.1.1 st0.S.length p.1.2) st0.S.length (bytesOf st0.S))) h3 (i := l.length) ((none, 0), (none, 0)) (by simp; rfl)
  rw [List.set_append_right _ _ (Nat.le_refl _), Nat.sub_self] at h4
  exact h4
/-- The source of an append lies apart. -/
def Away (w : World) (l : List Asn) (i : Nat) (A : Option Addr) (P : List Int) : Prop := ∀ ad, A = some ad → P ≠ [] → ∃ (j : Nat) (B : Asn), j ≠ i ∧ l[j]? = some B ∧ ∀ G, B.sat G w → G ad.block
theorem append_sat (h : Sat w0 w l) (hi : l[i]? = some (slabA g st)) (ok : st.In n) (hn : n ≤ 4611686018427387904) (P : List Int) (A : Option Addr) (c : Nat) (hA : A = none → P.length = 0 ∧ c = 0)
    (hsrc : SrcOf w A (bytesOf P)) (haw : Away w l i A P) (hP : P.length ≤ 140737488355328) :
    Calls Try.prog 8 #[.pointer (some ⟨g, 0, none⟩), .slice A P.length c] w fun e w' => e = .returned (.int .i64 (appE st P.length)) ∧ Sat w0 w' (l.set i (slabA g (appS st P))) :=
  h.call1 (Q := fun e => e = .returned (.int .i64 (appE st P.length))) hi fun F hF ha => append_any w 0 g F st hF (ok.ok hn) P A c hA hsrc (fun ad had hne e => by
    obtain ⟨j, B, hj, hB, hG⟩ := haw ad had hne
    exact ha j B ad.block hj hB hG (e ▸ slabA_has hF)) hP (Nat.zero_le _)
theorem sync_sat (h : Sat w0 w l) (hi : l[i]? = some (slabA g st)) (ok : st.In n) (hn : n ≤ 4611686018427387904) :
    Calls Try.prog 9 #[.pointer (some ⟨g, 0, none⟩)] w fun e w' => e = .returned (.int .i64 (syE st)) ∧ Sat w0 w' (l.set i (slabA g (syS st))) :=
  h.call1 (Q := fun e => e = .returned (.int .i64 (syE st))) hi fun F hF _ => sync_any w 0 g F st hF (ok.ok hn) (Nat.zero_le _)
theorem erase_sat (h : Sat w0 w l) (hi : l[i]? = some (slabA g st)) (ok : st.In n) (hn : n ≤ 4611686018427387904) :
    Calls Try.prog 11 #[.pointer (some ⟨g, 0, none⟩)] w fun e w' => e = .returned (.int .i64 (syE st)) ∧ Sat w0 w' (l.set i (slabA g (erS st))) :=
  h.call1 (Q := fun e => e = .returned (.int .i64 (syE st))) hi fun F hF _ => erase_any w 0 g F st hF (ok.ok hn)
theorem crash_sat (h : Sat w0 w l) (hi : l[i]? = some (slabA g st)) (ok : st.In n) (hn : n ≤ 4611686018427387904) (keep zeros : Int) :
    Calls Try.prog 13 #[.pointer (some ⟨g, 0, none⟩), .int .i64 keep, .int .i64 zeros] w fun e w' => e = .returned (.int .i64 0) ∧ Sat w0 w' (l.set i (slabA g (crS st keep zeros))) :=
  h.call1 (Q := fun e => e = .returned (.int .i64 0)) hi fun F hF _ => crash_any w 0 g F st hF (ok.ok hn) (Nat.zero_le _) keep zeros
theorem fuse_sat (h : Sat w0 w l) (hi : l[i]? = some (slabA g st)) (x : Int) :
    Calls Try.prog 12 #[.pointer (some ⟨g, 0, none⟩), .int .i64 x] w fun e w' => e = .returned (.int .i64 (upE st.down)) ∧ Sat w0 w' (l.set i (slabA g (fuS st x))) := by
  refine h.call1 (Q := fun e => e = .returned (.int .i64 (upE st.down))) hi fun F hF _ => ?_
  obtain ⟨vs, vl, rfl, hs⟩ := hF
  refine (fuse_any w 0 g vs vl st.S st.L st.steps st.fuse st.down hs x).mono ?_
  rintro e w' ⟨rfl, h1, h2⟩
  exact ⟨rfl, _, ⟨vs, vl, rfl, h1⟩, h2.mono fun k _ hk => .inl hk, fun k hk => .inl hk⟩
theorem read_sat (h : Sat w0 w l) (hi : l[i]? = some (slabA g st)) (ok : st.In n) (hn : n ≤ 4611686018427387904) :
    Calls Try.prog 10 #[.pointer (some ⟨g, 0, none⟩)] w fun e w' => ∃ A c, e = .returned (.tuple #[.slice A (rdS st).length c, .int .i64 (upE st.down)]) ∧ Sat w0 w' (l ++ [row 5 1 (.slice A (rdS st).length c) (rdS st).length (bytesOf (rdS st))]) := by
  obtain ⟨F, hF⟩ := h.get hi
  refine (read_any w 0 g F st hF (ok.ok hn) (Nat.zero_le _)).mono ?_
  rintro e w' ⟨v, rfl, h1, h2, h3⟩
  obtain ⟨A, c, rfl, -⟩ := row_slice h1
  refine ⟨A, c, rfl, h.push (F := fun b => (Value.slice A (rdS st).length c).ownBlock = some b) ⟨rfl, h1⟩ (fun k hk => h3 k hk) ⟨h2.os, h2.tape, h2.output, h2.size, fun k hk => h2.block k hk fun h => h⟩⟩
theorem loose_sat (h : Sat w0 w l) (hi : l[i]? = some (slabA g st)) :
    Calls Try.prog 14 #[.pointer (some ⟨g, 0, none⟩)] w fun e w' => e = .returned (.int .i64 st.L.length) ∧ w' = w := by
  obtain ⟨F, vs, vl, rfl, hs⟩ := h.get hi
  obtain ⟨A, c, rfl, -⟩ := row_slice hs.loose
  exact loose_any w g (.slice A st.L.length c) _ c A hs.cells.2.1
theorem steps_sat (h : Sat w0 w l) (hi : l[i]? = some (slabA g st)) :
    Calls Try.prog 19 #[.pointer (some ⟨g, 0, none⟩)] w fun e w' => e = .returned (.int .i64 st.steps) ∧ w' = w := by
  obtain ⟨F, vs, vl, rfl, hs⟩ := h.get hi
  exact steps_any w g _ hs.cells.2.2.1
theorem down_sat (h : Sat w0 w l) (hi : l[i]? = some (slabA g st)) :
    Calls Try.prog 20 #[.pointer (some ⟨g, 0, none⟩)] w fun e w' => e = .returned (.bool st.down) ∧ w' = w := by
  obtain ⟨F, vs, vl, rfl, hs⟩ := h.get hi
  exact down_any w g _ hs.cells.2.2.2.2.1
end
end Go.Proofs.Ytofhcdjnnbpkbaa
