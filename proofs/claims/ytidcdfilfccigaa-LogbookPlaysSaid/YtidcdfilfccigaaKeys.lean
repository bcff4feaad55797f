/- slices.Sorted(maps.Keys(m)): the shelf's contracts, laid; under Sat. -/
import Derived.Shelf.SlIter.Nil
import Derived.Shelf.SortM.Plain
import Derived.Shelf.SortM.SortNone
import Derived.Ground.GgzProg
import Derived.Ground.SlgmProg
import Derived.Test.YtidcdfilfccigaaGsmap
import Derived.Test.YtidcdfilfccigaaEnd
namespace Go.Proofs.Ytidcdfilfccigaa
set_option linter.unusedVariables false
set_option linter.unusedSimpArgs false
set_option linter.unnecessarySimpa false
open Go Go.RowKit Go.Maps Go.Sort Go.Shelf

shelf_lay_g SlLaysZ.n7 Ggz 7 at Try 40 as layK
shelf_lay_g SlLaysZ.n6 Ggz 6 at Try 39 as layS
shelf_lay_g SlLaysM.n6 Slgm 6 at Try 67 as layT

theorem sorts_in (m : Nat) : AnyZ.SortsIn Try.prog layS_ren Fence.wide m :=
  ⟨fun blk off cap ss W hH hblk hsz => callsIn_wide.2 (AnyM.slices_Sort_string layT blk off cap ss W hH hblk hsz),
   fun p cap W => callsIn_wide.2 (AnyM.slices_Sort_string_none layT p cap W)⟩
def sC (x : Bs) : List Value := [strV x]
theorem sC_len (x : Bs) : (sC x).length = 1 := rfl
/-- A map's keys, rising. -/
def keysOf (es : List SEnt) : List Bs := (es.map (·.1)).mergeSort leB
/-- A map as it has to be. -/
structure SOk (es : List SEnt) (clock : Nat) : Prop where
  nd : (es.map (·.1)).Nodup
  st : (es.map (·.2.2)).Nodup
  lt : ∀ p ∈ es, p.2.2 < clock
  ln : ∀ p ∈ es, p.1.length ≤ 1000000
  sz : es.length ≤ 1000000
theorem sok_nil : SOk [] 0 := ⟨by simp, by simp, by simp, by simp, by simp⟩
def anyR : Value → Option (DataW Unit × List MemPlace) := fun _ => some (.lit (.bool true), [])
section
variable {w0 w : World} {l : List Asn}
theorem rg_of (p : SEnt) (h : p.1.length ≤ 1000000) : WideElems.rd Try.prog 9 anyR (smapE p) = some (.string p.1, .lit (.bool true)) := by
  unfold WideElems.rd
  have h1 : keyOf Try.prog 9 (strV p.1) = some (.string p.1) := by
    have hk : Try.prog.underlying 9 = some .string := by kernel_rfl
    have hs : ¬ (maxLen < p.1.length) := by unfold maxLen; omega
    simp [keyOf, hk, mapKey, strV]
    simp [ByteArray.size, maxLen]; omega
  simp only [smapE, h1, Option.bind_some, anyR, Option.map_some]
theorem owns_of (S : Sat w0 w l) {i r : Nat} {es : List SEnt} {clock : Nat} (hi : l[i]? = some (smapA r es clock)) (ok : SOk es clock) : ∃ D0 : DataW Unit, w.ownsMap Try.prog 9 anyR r es.length D0 ∧ (strKeys D0).Perm (es.map (·.1)) ∧ Maps.size D0 = es.length := by
  have hr : ∀ p ∈ es, WideElems.rg Try.prog 9 anyR (smapE p) = (.string p.1, .lit (.bool true)) := fun p hp => by
    unfold WideElems.rg
    rw [rg_of p (ok.ln p hp)]
    rfl
  have hm : (es.map smapE).map (WideElems.rg Try.prog 9 anyR) = es.map fun p => ((.string p.1, .lit (.bool true)) : Lit × DataW Unit) := by
    rw [List.map_map]
    refine List.map_congr_left fun p hp => ?_
    rw [Function.comp_apply]
    exact hr p hp
  refine ⟨_, ⟨_, clock, S.smapOf hi, ⟨by rw [List.size_toArray, List.length_map]; have := ok.sz; unfold maxLen; omega, ⟨?_, ?_, ?_⟩, ?_⟩, by simp, rfl⟩, ?_, ?_⟩
  · intro x hx
    simp only [List.mem_map] at hx
    obtain ⟨p, hp, rfl⟩ := hx
    exact ok.lt p hp
  · simpa [List.map_map, Function.comp_def, smapE] using ok.st
  · have := ok.nd
    rw [List.map_map]
    have e : (fun x : MapEntry => x.key) ∘ smapE = fun p : SEnt => strV p.1 := rfl
    rw [e]
    have h2 : (es.map (·.1)).map strV = es.map fun p => strV p.1 := by rw [List.map_map]; rfl
    rw [← h2]
    exact List.Pairwise.map strV (fun a b hab e => hab (by simpa [strV] using e)) ok.nd
  · intro x hx
    simp only [List.mem_map] at hx
    obtain ⟨p, hp, rfl⟩ := hx
    exact ⟨_, rg_of p (ok.ln p hp)⟩
  · show (((es.map smapE).map (WideElems.rg Try.prog 9 anyR)).foldr DataW.insert [] |>.map fun p => strOf p.1).Perm _
    refine ((WideShapes.sorted_perm _).map _).trans ?_
    rw [hm, List.map_map]
    exact List.Perm.refl _
  · show (((es.map smapE).map (WideElems.rg Try.prog 9 anyR)).foldr DataW.insert []).length = _
    rw [(WideShapes.sorted_perm _).length_eq]
    simp
theorem mkeys_sat (S : Sat w0 w l) (r : Nat) : Calls Try.prog 40 #[.map (some r)] w fun e w' => ∃ q, e = .returned (.func (.func 68) #[] #[pt q 0]) ∧ Sat w0 w' (l ++ [box q 68 [.map (some r)]]) := by
  refine Calls.mono (callsIn_wide.1 (AnyZ.keys_in layK Fence.wide 5 trivial rfl (some r) w)) ?_
  rintro e w' ⟨rfl, rfl⟩
  exact ⟨w.heap.size, rfl, S.alloc _ _⟩
set_option maxHeartbeats 1000000 in
theorem sorted_sat (S : Sat w0 w l) {i j r q : Nat} {es : List SEnt} {clock : Nat} (hi : l[i]? = some (smapA r es clock)) (hj : l[j]? = some (box q 68 [.map (some r)])) (ok : SOk es clock) :
    Calls Try.prog 39 #[.func (.func 68) #[] #[pt q 0]] w fun e w' => ∃ A c, e = .returned (.slice A (keysOf es).length c) ∧ Sat w0 w' (l ++ [row 9 1 (.slice A (keysOf es).length c) (keysOf es).length ((keysOf es).flatMap sC)]) := by
  obtain ⟨D0, hown, hp, hsz⟩ := owns_of S hi ok
  have hq := S.boxOf hj
  have hm : w.cell? ⟨q, 0, none⟩ = some (.map (some r)) := by simp [World.cell?, hq]
  have hlt : q < w.heap.size := (Array.getElem?_eq_some_iff.1 hq).1
  have hseq := AnyZ.keys_gives (ρ := layK_ren) { layK with } Fence.wide 2 trivial rfl (by omega) q r es.length D0 w hlt hm hown
  have h1 := AnyZ.sorted_in layS Fence.wide 5 trivial trivial trivial trivial rfl (by omega) (sorts_in _) (enters_of Try.func67 (by kernel_rfl) rfl) 68 #[pt q 0] trivial (enters_of Try.func68 (by kernel_rfl) rfl) _ _ (by rw [hsz]; have := ok.sz; unfold maxLen; omega) (by rw [hsz]; have := ok.sz; omega) _ hseq
  refine Calls.mono (callsIn_wide.1 h1) ?_
  rintro e w' ⟨v, ss, rfl, hS, hrow, hnil, hb⟩
  have hk : ss.mergeSort leB = keysOf es := mergeSort_of_perm (hS.trans hp)
  have hl : ss.length = (keysOf es).length := by rw [← hk, List.length_mergeSort]
  have hm : (ss.mergeSort (fun x y => decide (x ≤ y))).map encStr = (keysOf es).flatMap sC := by
    show (ss.mergeSort leB).map encStr = _
    rw [hk]
    generalize keysOf es = ks
    induction ks with
    | nil => rfl
    | cons a ks ih => simp only [List.map_cons, List.flatMap_cons, ih]; rfl
  rw [hm, hl] at hrow
  obtain ⟨A, c, rfl, _⟩ := row_slice hrow
  exact ⟨A, c, rfl, S.pushRow hrow hb⟩
end
end Go.Proofs.Ytidcdfilfccigaa
