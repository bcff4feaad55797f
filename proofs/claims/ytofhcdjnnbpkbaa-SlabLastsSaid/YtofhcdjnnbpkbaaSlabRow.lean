/- A slab's rows grow; Append. -/
import Derived.Test.YtofhcdjnnbpkbaaSlabStep
import Derived.Test.YtofhcdjnnbpkbaaMoves
import Derived.Test.YtofhcdjnnbpkbaaChain
namespace Go.Proofs.Ytofhcdjnnbpkbaa
set_option linter.unusedVariables false
set_option linter.unusedSimpArgs false
set_option linter.unnecessarySimpa false
open Go.RowKit

theorem cell_lt {w : World} {a : Addr} {v : Value} (h : w.cell? a = some v) : a.block < w.heap.size := by
  by_cases hb : a.block < w.heap.size
  · exact hb
  · simp [World.cell?, Array.getElem?_eq_none (Nat.le_of_not_lt hb)] at h
/-- A row's value is a slice of that length. -/
theorem row_val {w : World} {B : Nat} {e : TypeId} {k : Nat} {v : Value} {n : Nat} {xs : List Value} (h : w.ownsRow B e k v n xs) : ∃ A c, v = .slice A n c ∧ (A = none → n = 0 ∧ c = 0) ∧ (∀ ad, A = some ad → v.ownBlock = some ad.block) := by
  rcases h.2 with ⟨h1, h2⟩ | ⟨g, cap, cur, h1, _⟩
  · subst h2; exact ⟨none, 0, h1, (fun _ => ⟨rfl, rfl⟩), (fun _ h => by cases h)⟩
  · exact ⟨some ⟨g, 0, none⟩, cap, h1, (fun h => by cases h), (fun ad h => by cases h; rw [h1]; rfl)⟩
theorem row_src {w : World} {B : Nat} {e : TypeId} {k : Nat} {A : Option Addr} {n c : Nat} {xs : List Value} (h : w.ownsRow B e k (.slice A n c) n xs) : SrcOf w A xs := by
  rintro ad rfl j u hj
  rcases h.2 with ⟨h1, _⟩ | ⟨g, cap, cur, h1, _⟩
  · cases h1
  · injection h1 with h1
    injection h1 with h1
    subst h1
    exact h.cells (g := g) rfl j u hj

section
variable {w : World} {B g : Nat} {vs vl : Value} {S L : List Int} {steps fuse : Int} {down : Bool}
theorem SlabAt.drew (h : SlabAt w B g vs vl S L steps fuse down) : SlabAt w.drew B g vs vl S L steps fuse down := h.of_block fun _ _ => rfl
theorem SlabAt.grow_loose {w2 : World} {v' : Value} {L' : List Int} (h : SlabAt w B g vs vl S L steps fuse down) (hown : w2.ownsRow B 5 1 v' L'.length (L'.map (Value.int .u8))) (hg : w.grownBy w2 vl.ownBlock)
    (hat : v'.ownBlock = vl.ownBlock ∨ ∃ q, v'.ownBlock = some q ∧ w.heap.size ≤ q) : SlabAt (w2.setCell ⟨g, 1, none⟩ v') B g vs v' S L' steps fuse down ∧ Moves (Foot g vs vl) (Foot g vs v') w (w2.setCell ⟨g, 1, none⟩ v') := by
  have hglt := (h.lt (.inl rfl)).1
  have hne : ∀ k, v'.ownBlock = some k → k ≠ g := by
    intro k hk
    rcases hat with e | ⟨q, e, hq⟩
    · exact h.row_ne (.inr (by rw [← e]; exact hk))
    · rw [e] at hk; injection hk with hk; omega
  refine ⟨⟨?_, ?_, ?_, ?_, h.base⟩, ?_, ?_⟩
  · exact heap_set (a := #[vs, vl, .int .i64 steps, .int .i64 fuse, .bool down]) (by rw [hg.block g hglt (fun e => h.row_ne (.inr e.symm) rfl)]; exact h.blk)
  · refine ownsRow_of_block h.sure fun j hj => ?_
    rw [heap_set_ne (h.row_ne (.inl hj))]
    exact hg.block j (h.lt (.inr (.inl hj))).1 fun e => h.apart j hj e.symm
  · exact ownsRow_of_block hown fun j hj => heap_set_ne (hne j hj)
  · intro k hk e
    rcases hat with e' | ⟨q, e', hq⟩
    · exact h.apart k hk (by rw [← e']; exact e)
    · rw [e'] at e; injection e with e; have := (h.lt (.inr (.inl hk))).1; omega
  · exact ((Chg.refl _ _).grown hg fun k hk => .inl (.inr (.inr hk))).setCell (.inl (.inl rfl)) _
  · rintro k (rfl | hk | hk)
    · exact .inl (.inl rfl)
    · exact .inl (.inr (.inl hk))
    · rcases hat with e | ⟨q, e, hq⟩
      · exact .inl (.inr (.inr (by rw [← e]; exact hk)))
      · rw [e] at hk; injection hk with hk; exact .inr (by omega)
theorem SlabAt.grow_sure {w2 : World} {v' : Value} {S' : List Int} (h : SlabAt w B g vs vl S L steps fuse down) (hown : w2.ownsRow B 5 1 v' S'.length (S'.map (Value.int .u8))) (hg : w.grownBy w2 vs.ownBlock)
    (hat : v'.ownBlock = vs.ownBlock ∨ ∃ q, v'.ownBlock = some q ∧ w.heap.size ≤ q) : SlabAt (w2.setCell ⟨g, 0, none⟩ v') B g v' vl S' L steps fuse down ∧ Moves (Foot g vs vl) (Foot g v' vl) w (w2.setCell ⟨g, 0, none⟩ v') := by
  have hglt := (h.lt (.inl rfl)).1
  have hne : ∀ k, v'.ownBlock = some k → k ≠ g := by
    intro k hk
    rcases hat with e | ⟨q, e, hq⟩
    · exact h.row_ne (.inl (by rw [← e]; exact hk))
    · rw [e] at hk; injection hk with hk; omega
  refine ⟨⟨?_, ?_, ?_, ?_, h.base⟩, ?_, ?_⟩
  · exact heap_set (a := #[vs, vl, .int .i64 steps, .int .i64 fuse, .bool down]) (by rw [hg.block g hglt (fun e => h.row_ne (.inl e.symm) rfl)]; exact h.blk)
  · exact ownsRow_of_block hown fun j hj => heap_set_ne (hne j hj)
  · refine ownsRow_of_block h.loose fun j hj => ?_
    rw [heap_set_ne (h.row_ne (.inr hj))]
    exact hg.block j (h.lt (.inr (.inr hj))).1 fun e => h.apart j e.symm hj
  · intro k hk e
    rcases hat with e' | ⟨q, e', hq⟩
    · exact h.apart k (by rw [← e']; exact hk) e
    · rw [e'] at hk; injection hk with hk; have := (h.lt (.inr (.inr e))).1; omega
  · exact ((Chg.refl _ _).grown hg fun k hk => .inl (.inr (.inl hk))).setCell (.inl (.inl rfl)) _
  · rintro k (rfl | hk | hk)
    · exact .inl (.inl rfl)
    · rcases hat with e | ⟨q, e, hq⟩
      · exact .inl (.inr (.inl (by rw [← e]; exact hk)))
      · rw [e] at hk; injection hk with hk; exact .inr (by omega)
    · exact .inl (.inr (.inr hk))
end

/-- A slab's state: as the document has it. -/
structure St where
  S : List Int
  L : List Int
  steps : Int
  fuse : Int
  down : Bool
structure St.Ok (st : St) : Prop where
  s0 : 0 ≤ st.steps
  s1 : st.steps ≤ 4611686018427387904
  f0 : -9223372036854775808 ≤ st.fuse
  f1 : st.fuse ≤ 9223372036854775807
  sz : st.S.length + st.L.length ≤ 262144
/-- A slab whose blocks are F. -/
def SlabF (w : World) (B g : Nat) (F : Nat → Prop) (st : St) : Prop := ∃ vs vl, F = Foot g vs vl ∧ SlabAt w B g vs vl st.S st.L st.steps st.fuse st.down

def appE (st : St) (n : Nat) : Int := if st.down then 5 else if 262144 < st.S.length + st.L.length + n then 4 else stE st.fuse
def appS (st : St) (P : List Int) : St := if st.down then st else if 262144 < st.S.length + st.L.length + P.length then st else
  ⟨st.S, if st.fuse = 0 then st.L else st.L ++ P, stS st.steps st.fuse, stF st.fuse, stD st.fuse st.down⟩

theorem info_u8 : (Try.prog.info? 5).map (fun i => (i.zero, i.size, i.bytes)) = some (some (.int .u8 0), 1, 1) := by kernel_rfl
end Go.Proofs.Ytofhcdjnnbpkbaa
