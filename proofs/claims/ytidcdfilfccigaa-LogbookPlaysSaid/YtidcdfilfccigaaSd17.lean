/- Slabs with bytes as bytes; their contracts. -/
import Derived.Test.YtidcdfilfccigaaRef17
import Derived.Test.YtidcdfilfccigaaNext17
namespace Go.Proofs.Ytidcdfilfccigaa
set_option linter.unusedVariables false
set_option linter.unusedSimpArgs false
set_option linter.unnecessarySimpa false
open Go Go.RowKit

/-- A slab: what lasts, what may be lost, steps, fuse, whether power is gone. -/
structure Sd where
  S : Bs
  L : Bs
  steps : Int
  fuse : Int
  down : Bool
def ints (X : Bs) : List Int := X.map fun b => (b.toNat : Int)
def Sd.st (s : Sd) : St := ⟨ints s.S, ints s.L, s.steps, s.fuse, s.down⟩
def Sd.new : Sd := ⟨[], [], 0, -1, false⟩
def Sd.stepE (s : Sd) : Int := if s.down then 5 else if s.fuse = 0 then 5 else 0
def Sd.stepped (s : Sd) (S L : Bs) : Sd := if s.down then s else if s.fuse = 0 then { s with down := true } else ⟨S, L, s.steps + 1, stF s.fuse, false⟩
def Sd.appE (s : Sd) (n : Nat) : Int := if s.down then 5 else if 262144 < s.S.length + s.L.length + n then 4 else s.stepE
def Sd.app (s : Sd) (P : Bs) : Sd := if s.down then s else if 262144 < s.S.length + s.L.length + P.length then s else s.stepped s.S (s.L ++ P)
def Sd.syn (s : Sd) : Sd := s.stepped (s.S ++ s.L) []
def Sd.ers (s : Sd) : Sd := s.stepped [] []
def Sd.rd (s : Sd) : Bs := if s.down then [] else s.S ++ s.L
def Sd.kept (s : Sd) (keep : Int) : Nat := (max 0 (min keep s.L.length)).toNat
def Sd.zeroed (s : Sd) (keep zeros : Int) : Nat := (max 0 (min zeros (s.L.length - s.kept keep))).toNat
def Sd.crs (s : Sd) (keep zeros : Int) : Sd := ⟨s.S ++ s.L.take (s.kept keep) ++ List.replicate (s.zeroed keep zeros) 0, [], s.steps, -1, false⟩
def Sd.fus (s : Sd) (n : Int) : Sd := { s with fuse := fuF s.down s.fuse n }
theorem ints_len (X : Bs) : (ints X).length = X.length := List.length_map _
theorem ints_app (X Y : Bs) : ints (X ++ Y) = ints X ++ ints Y := List.map_append
theorem ints_bytes (X : Bs) : bytesOf (ints X) = X.flatMap yC := by rw [yC_ints]; rfl
theorem st_app (s : Sd) (P : Bs) : (s.app P).st = appS s.st (ints P) := by
  obtain ⟨S, L, steps, fuse, down⟩ := s
  unfold Sd.app appS Sd.stepped
  simp only [Sd.st, ints_len]
  cases down
  · simp only [Bool.false_eq_true, if_false]
    by_cases h : 262144 < S.length + L.length + P.length
    · simp only [h, if_true]
    · simp only [h, if_false]
      by_cases hf : fuse = 0
      · simp [hf, stS, stF, stD]
      · simp [hf, stS, stD, ints_app]
  · rfl
theorem st_appE (s : Sd) (P : Bs) : s.appE P.length = Proofs.Ytidcdfilfccigaa.appE s.st (ints P).length := by
  obtain ⟨S, L, steps, fuse, down⟩ := s
  unfold Sd.appE Proofs.Ytidcdfilfccigaa.appE Sd.stepE stE
  simp only [Sd.st, ints_len]
  cases down
  · by_cases h : 262144 < S.length + L.length + P.length
    · simp [h]
    · by_cases hf : fuse = 0 <;> simp [h, hf]
  · rfl
theorem st_syn (s : Sd) : s.syn.st = syS s.st := by
  obtain ⟨S, L, steps, fuse, down⟩ := s
  unfold Sd.syn syS Sd.stepped
  simp only [Sd.st]
  cases down
  · by_cases hf : fuse = 0
    · simp [hf, stS, stF, stD]
    · simp [hf, stS, stD, ints_app]; rfl
  · rfl
theorem st_ers (s : Sd) : s.ers.st = erS s.st := by
  obtain ⟨S, L, steps, fuse, down⟩ := s
  unfold Sd.ers erS Sd.stepped
  simp only [Sd.st]
  cases down
  · by_cases hf : fuse = 0
    · simp [hf, stS, stF, stD]
    · simp [hf, stS, stD]; rfl
  · rfl
theorem st_stepE (s : Sd) : s.stepE = syE s.st := by
  obtain ⟨S, L, steps, fuse, down⟩ := s
  cases down <;> rfl
theorem st_rd (s : Sd) : rdS s.st = ints s.rd := by
  obtain ⟨S, L, steps, fuse, down⟩ := s
  cases down
  · exact (ints_app S L).symm
  · rfl
theorem st_crs (s : Sd) (keep zeros : Int) : (s.crs keep zeros).st = crS s.st keep zeros := by
  obtain ⟨S, L, steps, fuse, down⟩ := s
  unfold Sd.crs crS
  simp only [Sd.st, Sd.kept, Proofs.Ytidcdfilfccigaa.kept, Sd.zeroed, Proofs.Ytidcdfilfccigaa.zeroed, ints_len, ints_app]
  congr 1
  · congr 1
    · rw [show ints (L.take (max 0 (min keep (L.length : Int))).toNat) = (ints L).take (max 0 (min keep (L.length : Int))).toNat from List.map_take]
    · unfold ints; rw [List.map_replicate]; rfl
theorem st_fus (s : Sd) (n : Int) : (s.fus n).st = fuS s.st n := rfl
/-- A slab behind at most n steps. -/
def Sd.In (s : Sd) (n : Int) : Prop := s.st.In n
theorem Sd.In.mono {s : Sd} {n m : Int} (h : s.In n) (hn : n ≤ m) : s.In m := St.In.mono h hn
theorem Sd.In.new : Sd.new.In 0 := st0_in
theorem Sd.In.app {s : Sd} {n : Int} (h : s.In n) (P : Bs) : (s.app P).In (n + 1) := by unfold Sd.In; rw [st_app]; exact St.In.app h _
theorem Sd.In.syn {s : Sd} {n : Int} (h : s.In n) : s.syn.In (n + 1) := by unfold Sd.In; rw [st_syn]; exact St.In.syn h
theorem Sd.In.ers {s : Sd} {n : Int} (h : s.In n) : s.ers.In (n + 1) := by unfold Sd.In; rw [st_ers]; exact St.In.ers h
theorem Sd.In.crs {s : Sd} {n : Int} (h : s.In n) (k z : Int) : (s.crs k z).In n := by unfold Sd.In; rw [st_crs]; exact St.In.crs h _ _
theorem Sd.In.fus {s : Sd} {m : Int} (h : s.In m) {n : Int} (h1 : n ≤ 9223372036854775807) : (s.fus n).In m := by unfold Sd.In; rw [st_fus]; exact St.In.fus h h1
theorem Sd.In.len {s : Sd} {n : Int} (h : s.In n) : s.S.length + s.L.length ≤ 262144 := by have := h.sz; simpa [Sd.st, ints_len] using this
theorem rd_len {s : Sd} {n : Int} (h : s.In n) : s.rd.length ≤ 262144 := by
  have := h.len
  unfold Sd.rd
  split
  · simp
  · rw [List.length_append]; exact this
/-- A slab in memory. -/
def sdA (g : Nat) (s : Sd) : Asn := slabA g s.st
section
variable {w0 w : World} {l : List Asn} {i g : Nat} {s : Sd} {n : Int}
theorem snew_at (h : Sat w0 w l) : Calls Try.prog 7 #[] w fun e w' => ∃ g, e = .returned (pt g 0) ∧ Sat w0 w' (l ++ [sdA g .new]) := by
  refine (new_sat h).mono ?_
  rintro e w' ⟨rfl, h1⟩
  exact ⟨_, rfl, h1⟩
theorem away_row {j : Nat} {T : TypeId} {k N c : Nat} {A : Option Addr} {xs : List Value} {P : List Int} (hj : l[j]? = some (row T k (.slice A N c) N xs)) (hij : j ≠ i) : Away w l i A P := by
  intro ad had _
  refine ⟨j, _, hij, hj, fun G hG => ?_⟩
  obtain ⟨rfl, hr⟩ := hG
  rcases hr.2 with ⟨h1, _⟩ | ⟨g', cap, cur, h1, _⟩
  · injection h1 with h1; rw [had] at h1; cases h1
  · injection h1 with h1; rw [had] at h1; cases h1; subst had; rfl
theorem away_rest {j : Nat} {w1 : World} {G : Nat → Prop} {A : Option Addr} {xs : List Value} {P : List Int} (hj : l[j]? = some (rest w1 G)) (hij : j ≠ i) (hx : InG G A xs) (hne : P ≠ [] → xs ≠ []) : Away w l i A P :=
  fun ad had hp => ⟨j, _, hij, hj, fun F hF => (hF.2 _ (hx ad had (hne hp))).2.1⟩
theorem sapp_at (h : Sat w0 w l) (hi : l[i]? = some (sdA g s)) (ok : s.In n) (hn : n ≤ 4611686018427387904) (P : Bs) (A : Option Addr) (c : Nat) (hR : Recs 1 yC w A c P) (haw : Away w l i A (ints P)) :
    Calls Try.prog 43 #[pt g 0, .slice A P.length c] w fun e w' => e = .returned (.int .i64 (s.appE P.length)) ∧ Sat w0 w' (l.set i (sdA g (s.app P))) := by
  have h1 := append_sat h hi ok hn (ints P) A c (fun e => by rw [ints_len]; exact hR.none_ e) (by rw [ints_bytes]; exact hR.src) haw (by rw [ints_len]; exact hR.len)
  rw [← st_appE, ints_len, ← st_app] at h1
  exact h1
theorem ssync_at (h : Sat w0 w l) (hi : l[i]? = some (sdA g s)) (ok : s.In n) (hn : n ≤ 4611686018427387904) :
    Calls Try.prog 37 #[pt g 0] w fun e w' => e = .returned (.int .i64 s.stepE) ∧ Sat w0 w' (l.set i (sdA g s.syn)) := by
  have h1 := sync_sat h hi ok hn
  rw [← st_stepE, ← st_syn] at h1
  exact h1
theorem serase_at (h : Sat w0 w l) (hi : l[i]? = some (sdA g s)) (ok : s.In n) (hn : n ≤ 4611686018427387904) :
    Calls Try.prog 41 #[pt g 0] w fun e w' => e = .returned (.int .i64 s.stepE) ∧ Sat w0 w' (l.set i (sdA g s.ers)) := by
  have h1 := erase_sat h hi ok hn
  rw [← st_stepE, ← st_ers] at h1
  exact h1
theorem scrash_at (h : Sat w0 w l) (hi : l[i]? = some (sdA g s)) (ok : s.In n) (hn : n ≤ 4611686018427387904) (keep zeros : Int) :
    Calls Try.prog 21 #[pt g 0, .int .i64 keep, .int .i64 zeros] w fun e w' => e = .returned (.int .i64 0) ∧ Sat w0 w' (l.set i (sdA g (s.crs keep zeros))) := by
  have h1 := crash_sat h hi ok hn keep zeros
  rw [← st_crs] at h1
  exact h1
theorem sread_at (h : Sat w0 w l) (hi : l[i]? = some (sdA g s)) (ok : s.In n) (hn : n ≤ 4611686018427387904) :
    Calls Try.prog 57 #[pt g 0] w fun e w' => ∃ A c, e = .returned (.tuple #[.slice A s.rd.length c, .int .i64 (upE s.down)]) ∧ Sat w0 w' (l ++ [row 5 1 (.slice A s.rd.length c) s.rd.length (s.rd.flatMap yC)]) := by
  have h1 := read_sat h hi ok hn
  rw [st_rd, ints_len, ints_bytes] at h1
  exact h1
theorem clone_at (h : Sat w0 w l) (A : Option Addr) (c : Nat) (X : Bs) (hR : Recs 1 yC w A c X) :
    Calls Try.prog 35 #[.slice A X.length c] w fun e w' => ∃ A' c', e = .returned (.slice A' X.length c') ∧ Sat w0 w' (l ++ [row 5 1 (.slice A' X.length c') X.length (X.flatMap yC)]) := by
  have h1 := clone_any w 0 A c (ints X) (fun e => by rw [ints_len]; exact hR.none_ e) (by rw [show (ints X).map (Value.int .u8) = X.flatMap yC from ints_bytes X]; exact hR.src) (by rw [ints_len]; exact hR.len) (Nat.zero_le _)
  rw [ints_len, show (ints X).map (Value.int .u8) = X.flatMap yC from ints_bytes X] at h1
  refine h1.mono ?_
  rintro e w' ⟨v, rfl, h2, h3, h4⟩
  obtain ⟨A', c', rfl, -⟩ := row_slice h2
  refine ⟨A', c', rfl, h.push (F := fun b => (Value.slice A' X.length c').ownBlock = some b) ⟨rfl, h2⟩ (fun k hk => h4 k hk) ⟨h3.os, h3.tape, h3.output, h3.size, fun k hk => h3.block k hk fun h => h⟩⟩
end
end Go.Proofs.Ytidcdfilfccigaa
