/- slices.Sorted(maps.Keys(m)): the shelf's contracts, laid; under Sat. -/
import Derived.Shelf.SlIter.Nil
import Derived.Shelf.SortM.Plain
import Derived.Shelf.SortM.SortNone
import Derived.Ground.GgzProg
import Derived.Ground.SlgmProg
import Derived.Test.YtidcdfilfccigaaGsmap
import Derived.Test.YtidcdfilfccigaaEnd
namespace Go.Proofs.Ytidcdfilfccigaa
set_option linter.unusedVariables false
set_option linter.unusedSimpArgs false
set_option linter.unnecessarySimpa false
open Go Go.RowKit Go.Maps Go.Sort Go.Shelf

def layK_ren : Go.Shelf.Ren := ⟨fun | 7 => 40 | 10 => 68 | n => n, fun | 23 => 68 | 26 => 9 | 3 => 36 | 28 => 83 | 0 => 0 | 27 => 82 | 33 => 116 | 4 => 4 | n => n, fun | n => n⟩
theorem layK : Go.Proofs.SlLaysZ.n7 Try.prog layK_ren := {
  mixed := by kernel_rfl
  f7 := ⟨Try.f40.name, by decide, Try.func40.trans (congrArg some (by kernel_rfl))⟩
  f10 := ⟨Try.f68.name, by decide, Try.func68.trans (congrArg some (by kernel_rfl))⟩
  t0 := Try.underlying0
  a0 := Try.isAgg0
  z0 := Try.sizeOf0
  v0 := Try.zeroValue0
  t4 := Try.underlying4
  a4 := Try.isAgg4
  z4 := Try.sizeOf4
  v4 := Try.zeroValue4
  t23 := Try.underlying68
  a23 := Try.isAgg68
  z23 := Try.sizeOf68
  v23 := Try.zeroValue68
  t26 := Try.underlying9
  a26 := Try.isAgg9
  z26 := Try.sizeOf9
  v26 := Try.zeroValue9
  t27 := Try.underlying82
  a27 := Try.isAgg82
  z27 := Try.sizeOf82
  v27 := Try.zeroValue82
  t28 := Try.underlying83
  a28 := Try.isAgg83
  z28 := Try.sizeOf83
  v28 := Try.zeroValue83
  t33 := Try.underlying116
  a33 := Try.isAgg116
  z33 := Try.sizeOf116
  v33 := Try.zeroValue116 }
def layS_ren : Go.Shelf.Ren := ⟨fun | 6 => 39 | 8 => 66 | 9 => 67 | 11 => 71 | 13 => 73 | 12 => 72 | 23 => 84 | 24 => 85 | 14 => 75 | 15 => 76 | 16 => 77 | 17 => 78 | 18 => 79 | 19 => 80 | 20 => 81 | 21 => 82 | 22 => 83 | 25 => 88 | 26 => 89 | 27 => 90 | 28 => 91 | 29 => 92 | 30 => 93 | 31 => 94 | n => n, fun | 26 => 9 | 28 => 83 | 24 => 41 | 0 => 0 | 3 => 3 | 37 => 86 | 48 => 30 | 50 => 105 | 4 => 4 | 40 => 126 | 39 => 125 | 45 => 131 | 5 => 5 | 9 => 9 | 51 => 136 | 55 => 140 | 57 => 142 | 58 => 143 | 33 => 116 | n => n, fun | n => n⟩
theorem layS : Go.Proofs.SlLaysZ.n6 Try.prog layS_ren := {
  mixed := by kernel_rfl
  f6 := ⟨Try.f39.name, by decide, Try.func39.trans (congrArg some (by kernel_rfl))⟩
  f8 := ⟨Try.f66.name, by decide, Try.func66.trans (congrArg some (by kernel_rfl))⟩
  f11 := ⟨Try.f71.name, by decide, Try.func71.trans (congrArg some (by kernel_rfl))⟩
  t0 := Try.underlying0
  a0 := Try.isAgg0
  z0 := Try.sizeOf0
  v0 := Try.zeroValue0
  t24 := Try.underlying41
  a24 := Try.isAgg41
  z24 := Try.sizeOf41
  v24 := Try.zeroValue41
  t26 := Try.underlying9
  a26 := Try.isAgg9
  z26 := Try.sizeOf9
  v26 := Try.zeroValue9
  t28 := Try.underlying83
  a28 := Try.isAgg83
  z28 := Try.sizeOf83
  v28 := Try.zeroValue83
  i26 := by kernel_rfl }
def layT_ren : Go.Shelf.Ren := ⟨fun | 6 => 67 | 8 => 73 | 9 => 72 | 19 => 84 | 20 => 85 | 21 => 75 | 22 => 76 | 23 => 77 | 24 => 78 | 25 => 79 | 26 => 80 | 27 => 81 | 28 => 82 | 29 => 83 | 36 => 88 | 31 => 89 | 32 => 90 | 37 => 91 | 38 => 92 | 39 => 93 | 41 => 94 | n => n, fun | 27 => 41 | 29 => 9 | 3 => 3 | 32 => 86 | 26 => 41 | 0 => 0 | 44 => 30 | 46 => 105 | 4 => 4 | 36 => 126 | 35 => 125 | 41 => 131 | 5 => 5 | 9 => 9 | 53 => 136 | 57 => 140 | 63 => 142 | 64 => 143 | n => n, fun | n => n⟩
theorem layT : Go.Proofs.SlLaysM.n6 Try.prog layT_ren := {
  mixed := by kernel_rfl
  f6 := ⟨Try.f67.name, by decide, Try.func67.trans (congrArg some (by kernel_rfl))⟩
  f8 := Try.func73.trans (congrArg some (by kernel_rfl))
  f9 := ⟨Try.f72.name, by decide, Try.func72.trans (congrArg some (by kernel_rfl))⟩
  f19 := Try.func84.trans (congrArg some (by kernel_rfl))
  f20 := Try.func85.trans (congrArg some (by kernel_rfl))
  f21 := ⟨Try.f75.name, by decide, Try.func75.trans (congrArg some (by kernel_rfl))⟩
  f22 := ⟨Try.f76.name, by decide, Try.func76.trans (congrArg some (by kernel_rfl))⟩
  f23 := ⟨Try.f77.name, by decide, Try.func77.trans (congrArg some (by kernel_rfl))⟩
  f24 := ⟨Try.f78.name, by decide, Try.func78.trans (congrArg some (by kernel_rfl))⟩
  f25 := ⟨Try.f79.name, by decide, Try.func79.trans (congrArg some (by kernel_rfl))⟩
  f26 := ⟨Try.f80.name, by decide, Try.func80.trans (congrArg some (by kernel_rfl))⟩
  f27 := ⟨Try.f81.name, by decide, Try.func81.trans (congrArg some (by kernel_rfl))⟩
  f28 := ⟨Try.f82.name, by decide, Try.func82.trans (congrArg some (by kernel_rfl))⟩
  f29 := ⟨Try.f83.name, by decide, Try.func83.trans (congrArg some (by kernel_rfl))⟩
  f31 := Try.func89.trans (congrArg some (by kernel_rfl))
  f32 := Try.func90.trans (congrArg some (by kernel_rfl))
  f36 := ⟨Try.f88.name, by decide, Try.func88.trans (congrArg some (by kernel_rfl))⟩
  f37 := ⟨Try.f91.name, by decide, Try.func91.trans (congrArg some (by kernel_rfl))⟩
  f38 := ⟨Try.f92.name, by decide, Try.func92.trans (congrArg some (by kernel_rfl))⟩
  f39 := ⟨Try.f93.name, by decide, Try.func93.trans (congrArg some (by kernel_rfl))⟩
  f41 := ⟨Try.f94.name, by decide, Try.func94.trans (congrArg some (by kernel_rfl))⟩
  t0 := Try.underlying0
  a0 := Try.isAgg0
  z0 := Try.sizeOf0
  v0 := Try.zeroValue0
  t3 := Try.underlying3
  a3 := Try.isAgg3
  z3 := Try.sizeOf3
  v3 := Try.zeroValue3
  t4 := Try.underlying4
  a4 := Try.isAgg4
  z4 := Try.sizeOf4
  v4 := Try.zeroValue4
  t5 := Try.underlying5
  a5 := Try.isAgg5
  z5 := Try.sizeOf5
  v5 := Try.zeroValue5
  t9 := Try.underlying9
  a9 := Try.isAgg9
  z9 := Try.sizeOf9
  v9 := Try.zeroValue9
  t26 := Try.underlying41
  a26 := Try.isAgg41
  z26 := Try.sizeOf41
  v26 := Try.zeroValue41
  t27 := Try.underlying41
  a27 := Try.isAgg41
  z27 := Try.sizeOf41
  v27 := Try.zeroValue41
  t29 := Try.underlying9
  a29 := Try.isAgg9
  z29 := Try.sizeOf9
  v29 := Try.zeroValue9
  t32 := Try.underlying86
  a32 := Try.isAgg86
  z32 := Try.sizeOf86
  v32 := Try.zeroValue86
  t35 := Try.underlying125
  a35 := Try.isAgg125
  z35 := Try.sizeOf125
  v35 := Try.zeroValue125
  t36 := Try.underlying126
  a36 := Try.isAgg126
  z36 := Try.sizeOf126
  v36 := Try.zeroValue126
  t41 := Try.underlying131
  a41 := Try.isAgg131
  z41 := Try.sizeOf131
  v41 := Try.zeroValue131
  t44 := Try.underlying30
  a44 := Try.isAgg30
  z44 := Try.sizeOf30
  v44 := Try.zeroValue30
  t46 := Try.underlying105
  a46 := Try.isAgg105
  z46 := Try.sizeOf105
  v46 := Try.zeroValue105
  t53 := Try.underlying136
  a53 := Try.isAgg136
  z53 := Try.sizeOf136
  v53 := Try.zeroValue136
  t57 := Try.underlying140
  a57 := Try.isAgg140
  z57 := Try.sizeOf140
  v57 := Try.zeroValue140
  t63 := Try.underlying142
  a63 := Try.isAgg142
  z63 := Try.sizeOf142
  v63 := Try.zeroValue142
  t64 := Try.underlying143
  a64 := Try.isAgg143
  z64 := Try.sizeOf143
  v64 := Try.zeroValue143 }

theorem sorts_in (m : Nat) : AnyZ.SortsIn Try.prog layS_ren Fence.wide m :=
  ⟨fun blk off cap ss W hH hblk hsz => callsIn_wide.2 (AnyM.slices_Sort_string layT blk off cap ss W hH hblk hsz),
   fun p cap W => callsIn_wide.2 (AnyM.slices_Sort_string_none layT p cap W)⟩
def sC (x : Bs) : List Value := [strV x]
theorem sC_len (x : Bs) : (sC x).length = 1 := rfl
/-- A map's keys, rising. -/
def keysOf (es : List SEnt) : List Bs := (es.map (·.1)).mergeSort leB
/-- A map as it has to be. -/
structure SOk (es : List SEnt) (clock : Nat) : Prop where
  nd : (es.map (·.1)).Nodup
  st : (es.map (·.2.2)).Nodup
  lt : ∀ p ∈ es, p.2.2 < clock
  ln : ∀ p ∈ es, p.1.length ≤ 1000000
  sz : es.length ≤ 1000000
theorem sok_nil : SOk [] 0 := ⟨by simp, by simp, by simp, by simp, by simp⟩
def anyR : Value → Option (DataW Unit × List MemPlace) := fun _ => some (.lit (.bool true), [])
section
variable {w0 w : World} {l : List Asn}
theorem rg_of (p : SEnt) (h : p.1.length ≤ 1000000) : WideElems.rd Try.prog 9 anyR (smapE p) = some (.string p.1, .lit (.bool true)) := by
  unfold WideElems.rd
  have h1 : keyOf Try.prog 9 (strV p.1) = some (.string p.1) := by
    have hk : Try.prog.underlying 9 = some .string := by kernel_rfl
    have hs : ¬ (maxLen < p.1.length) := by unfold maxLen; omega
    simp [keyOf, hk, mapKey, strV]
    simp [ByteArray.size, maxLen]; omega
  simp only [smapE, h1, Option.bind_some, anyR, Option.map_some]
theorem owns_of (S : Sat w0 w l) {i r : Nat} {es : List SEnt} {clock : Nat} (hi : l[i]? = some (smapA r es clock)) (ok : SOk es clock) : ∃ D0 : DataW Unit, w.ownsMap Try.prog 9 anyR r es.length D0 ∧ (strKeys D0).Perm (es.map (·.1)) ∧ Maps.size D0 = es.length := by
  have hr : ∀ p ∈ es, WideElems.rg Try.prog 9 anyR (smapE p) = (.string p.1, .lit (.bool true)) := fun p hp => by
    unfold WideElems.rg
    rw [rg_of p (ok.ln p hp)]
    rfl
  have hm : (es.map smapE).map (WideElems.rg Try.prog 9 anyR) = es.map fun p => ((.string p.1, .lit (.bool true)) : Lit × DataW Unit) := by
    rw [List.map_map]
    refine List.map_congr_left fun p hp => ?_
    rw [Function.comp_apply]
    exact hr p hp
  refine ⟨_, ⟨_, clock, S.smapOf hi, ⟨by rw [List.size_toArray, List.length_map]; have := ok.sz; unfold maxLen; omega, ⟨?_, ?_, ?_⟩, ?_⟩, by simp, rfl⟩, ?_, ?_⟩
  · intro x hx
    simp only [List.mem_map] at hx
    obtain ⟨p, hp, rfl⟩ := hx
    exact ok.lt p hp
  · simpa [List.map_map, Function.comp_def, smapE] using ok.st
  · have := ok.nd
    rw [List.map_map]
    have e : (fun x : MapEntry => x.key) ∘ smapE = fun p : SEnt => strV p.1 := rfl
    rw [e]
    have h2 : (es.map (·.1)).map strV = es.map fun p => strV p.1 := by rw [List.map_map]; rfl
    rw [← h2]
    exact List.Pairwise.map strV (fun a b hab e => hab (by simpa [strV] using e)) ok.nd
  · intro x hx
    simp only [List.mem_map] at hx
    obtain ⟨p, hp, rfl⟩ := hx
    exact ⟨_, rg_of p (ok.ln p hp)⟩
  · show (((es.map smapE).map (WideElems.rg Try.prog 9 anyR)).foldr DataW.insert [] |>.map fun p => strOf p.1).Perm _
    refine ((WideShapes.sorted_perm _).map _).trans ?_
    rw [hm, List.map_map]
    exact List.Perm.refl _
  · show (((es.map smapE).map (WideElems.rg Try.prog 9 anyR)).foldr DataW.insert []).length = _
    rw [(WideShapes.sorted_perm _).length_eq]
    simp
theorem mkeys_sat (S : Sat w0 w l) (r : Nat) : Calls Try.prog 40 #[.map (some r)] w fun e w' => ∃ q, e = .returned (.func (.func 68) #[] #[.pointer (some ⟨q, 0, none⟩)]) ∧ Sat w0 w' (l ++ [box q 68 [.map (some r)]]) := by
  refine Calls.mono (callsIn_wide.1 (AnyZ.keys_in layK Fence.wide 5 trivial rfl (some r) w)) ?_
  rintro e w' ⟨rfl, rfl⟩
  exact ⟨w.heap.size, rfl, S.alloc _ _⟩
set_option maxHeartbeats 1000000 in
theorem sorted_sat (S : Sat w0 w l) {i j r q : Nat} {es : List SEnt} {clock : Nat} (hi : l[i]? = some (smapA r es clock)) (hj : l[j]? = some (box q 68 [.map (some r)])) (ok : SOk es clock) :
    Calls Try.prog 39 #[.func (.func 68) #[] #[.pointer (some ⟨q, 0, none⟩)]] w fun e w' => ∃ A c, e = .returned (.slice A (keysOf es).length c) ∧ Sat w0 w' (l ++ [row 9 1 (.slice A (keysOf es).length c) (keysOf es).length ((keysOf es).flatMap sC)]) := by
  obtain ⟨D0, hown, hp, hsz⟩ := owns_of S hi ok
  have hq := S.boxOf hj
  have hm : w.cell? ⟨q, 0, none⟩ = some (.map (some r)) := by simp [World.cell?, hq]
  have hlt : q < w.heap.size := (Array.getElem?_eq_some_iff.1 hq).1
  have hseq := AnyZ.keys_gives (ρ := layK_ren) { layK with } Fence.wide 2 trivial rfl (by omega) q r es.length D0 w hlt hm hown
  have h1 := AnyZ.sorted_in layS Fence.wide 5 trivial trivial trivial trivial rfl (by omega) (sorts_in _) (enters_of Try.func67 (by kernel_rfl) rfl) 68 #[.pointer (some ⟨q, 0, none⟩)] trivial (enters_of Try.func68 (by kernel_rfl) rfl) _ _ (by rw [hsz]; have := ok.sz; unfold maxLen; omega) (by rw [hsz]; have := ok.sz; omega) _ hseq
  refine Calls.mono (callsIn_wide.1 h1) ?_
  rintro e w' ⟨v, ss, rfl, hS, hrow, hnil, hb⟩
  have hk : ss.mergeSort leB = keysOf es := mergeSort_of_perm (hS.trans hp)
  have hl : ss.length = (keysOf es).length := by rw [← hk, List.length_mergeSort]
  have hm : (ss.mergeSort (fun x y => decide (x ≤ y))).map encStr = (keysOf es).flatMap sC := by
    show (ss.mergeSort leB).map encStr = _
    rw [hk]
    generalize keysOf es = ks
    induction ks with
    | nil => rfl
    | cons a ks ih => simp only [List.map_cons, List.flatMap_cons, ih]; rfl
  rw [hm, hl] at hrow
  obtain ⟨A, c, rfl, _⟩ := row_slice hrow
  exact ⟨A, c, rfl, S.pushRow hrow hb⟩
end
end Go.Proofs.Ytidcdfilfccigaa
