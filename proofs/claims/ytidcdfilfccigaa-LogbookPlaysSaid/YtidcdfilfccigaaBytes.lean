/- Rows of bytes; texts of them. -/
import Derived.Test.YtidcdfilfccigaaSat
import Derived.Laws.BytesArg
import Derived.Lib.SlBytesConst
namespace Go.Proofs.Ytidcdfilfccigaa
set_option linter.unusedVariables false
set_option linter.unusedSimpArgs false
set_option linter.unnecessarySimpa false
open Go Go.RowKit

def bytesOf (l : List Int) : List Value := l.map (Value.int .u8)
theorem bytes_app (a b : List Int) : bytesOf a ++ bytesOf b = bytesOf (a ++ b) := by simp [bytesOf]
theorem bytes_len (l : List Int) : (bytesOf l).length = l.length := by simp [bytesOf]
theorem bytes_one (x : Int) : [Value.int .u8 x] = bytesOf [x] := rfl

/-- A block, whole. -/
def blk (b : Nat) (o : Obj) : Asn where
  sat F w := F = (· = b) ∧ w.heap[b]? = some o
  facts _ := True
  stay := by rintro F w w' ⟨rfl, h⟩ hk; exact ⟨rfl, (hk b rfl).trans h⟩
  lt := by rintro F w k ⟨rfl, h⟩ rfl; exact (Array.getElem?_eq_some_iff.1 h).1
  out := fun _ _ _ => trivial
theorem Sat.allocBlk {w0 w : World} {l : List Asn} (h : Sat w0 w l) (o : Obj) : Sat w0 (w.alloc o) (l ++ [blk w.heap.size o]) :=
  h.push (F := (· = w.heap.size)) ⟨rfl, by simpa using heap_alloc_new w o⟩ (fun k hk => by cases hk; exact Nat.le_refl _) ((Below.refl _ _).alloc (Nat.le_refl _) _)

/-- string(b), at bytes that read as xs. -/
theorem conv_src {P : Program} {w : World} {A : Option Addr} {c : Nat} {xs : List Int} (src e dst : TypeId) (hs : P.underlying src = some (.slice e)) (he : P.underlying e = some (.int .u8)) (hd : P.underlying dst = some .string)
    (hA : A = none → xs.length = 0 ∧ c = 0) (hx : SrcOf w A (bytesOf xs)) (hplain : ∀ ad, A = some ad → ad.spot = none) : (convert src dst (.slice A xs.length c)).run P w = .ok (.string (strOfNums xs)) w := by
  cases A with
  | none =>
    obtain ⟨h0, -⟩ := hA rfl
    have : xs = [] := List.eq_nil_of_length_eq_zero h0
    subst this
    exact run_convert_bytes_nil w src e hs he _ _ dst hd
  | some ad =>
    obtain ⟨b, o, s⟩ := ad
    have h1 : s = none := hplain _ rfl
    subst h1
    refine run_convert_bytes_arg w src e hs he b o _ c xs rfl (fun i hi => ?_) dst hd
    have := hx _ rfl i (.int .u8 (xs.getD i 0)) (by simp [bytesOf, hi])
    have e2 : (⟨b, o, none⟩ : Addr).add i = ⟨b, o + i, none⟩ := by unfold Addr.add; split <;> simp_all
    rwa [e2] at this
theorem row_spot {w : World} {B : Nat} {e : TypeId} {k : Nat} {A : Option Addr} {n c : Nat} {xs : List Value} (h : w.ownsRow B e k (.slice A n c) n xs) : ∀ ad, A = some ad → ad.spot = none := by
  rintro ad rfl
  rcases h.2 with ⟨h1, _⟩ | ⟨g, cap, cur, h1, _⟩
  · cases h1
  · injection h1 with h1; injection h1 with h1; rw [h1]
theorem conv_row {P : Program} {w : World} {B : Nat} {A : Option Addr} {n c : Nat} {xs : List Int} {T : TypeId} (src e dst : TypeId) (hs : P.underlying src = some (.slice e)) (he : P.underlying e = some (.int .u8)) (hd : P.underlying dst = some .string)
    (h : w.ownsRow B T 1 (.slice A n c) n (bytesOf xs)) : (convert src dst (.slice A n c)).run P w = .ok (.string (strOfNums xs)) w := by
  have h0 := h.1
  rw [bytes_len, Nat.mul_one] at h0
  subst h0
  exact conv_src src e dst hs he hd (row_none h) (src_row h) (row_spot h)
end Go.Proofs.Ytidcdfilfccigaa
