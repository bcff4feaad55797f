/- Edges, compared with themselves. -/
import Derived.Test.YtcfpbemoocegfaaSteps
import Derived.DeepKeys
namespace Go.Proofs.Ytcfpbemoocegfaa
set_option linter.unusedVariables false
set_option linter.unusedSimpArgs false
set_option linter.unnecessarySimpa false
open Go.RowKit

theorem eq_self {t : TypeId} {xs : Array Value} {l : List Lit} (hk : Try.prog.keyTypeAt 5 t = true) (hf : (Value.agg xs).formed Try.prog t = true) (hl : Try.prog.keyLits 10 t xs.toList = some l) (w : World) : (Op.equalIn 9999 t (.agg xs) (.agg xs)).run Try.prog w = .ok true w := by
  obtain ⟨r, hr, hiff⟩ := run_equalIn_deep (P := Try.prog) 9994 5 t hk w 10 10 (.agg xs) (.agg xs) l l hf hf hl hl
  have h2 : r = true := hiff.2 rfl
  rw [h2] at hr
  exact hr
theorem kl_int {P : Program} {d : Nat} {t : TypeId} {q : IntKind} {n : Int} (hu : P.underlying t = some (.int q)) (hw : (Lit.int q n).wf = true) : P.keyLits (d + 1) t [.int q n] = some [.int q n] := by
  unfold Program.keyLits; rw [hu]; simp [hw]
theorem kl_arr2 {P : Program} {d : Nat} {t e : TypeId} {cs : List Value} {a b : List Lit} {k : Nat} (hu : P.underlying t = some (.array 2 e)) (hc : cs.length = P.cellsOf t) (he : P.cellsOf e = k) (h0 : P.keyLits d e (cs.take k) = some a) (h1 : P.keyLits d e ((cs.drop k).take k) = some b) :
    P.keyLits (d + 1) t cs = some (a ++ b) := by
  unfold Program.keyLits
  rw [hu]
  have e2 : (List.range 2).mapM (fun i => P.keyLits d e ((cs.drop (i * P.cellsOf e)).take (P.cellsOf e))) = some [a, b] := by
    rw [show List.range 2 = [0, 1] from rfl, he]
    simp only [List.mapM_cons, List.mapM_nil, Nat.zero_mul, List.drop_zero, Nat.one_mul, h0, h1]; rfl
  simp only [hc, if_true, e2]; simp
theorem kl_st2 {P : Program} {d : Nat} {t : TypeId} {cs : List Value} {a b : List Lit} {f0 f1 : Field} (hu : P.underlying t = some (.struct #[f0, f1])) (hc : cs.length = P.cellsOf t) (hn : (#[f0, f1] : Array Field).all (·.name != "_") = true)
    (h0 : P.keyLits d f0.type ((cs.drop f0.offset).take (P.cellsOf f0.type)) = some a) (h1 : P.keyLits d f1.type ((cs.drop f1.offset).take (P.cellsOf f1.type)) = some b) : P.keyLits (d + 1) t cs = some (a ++ b) := by
  unfold Program.keyLits
  rw [hu]
  have e2 : ([f0, f1] : List Field).mapM (fun f => P.keyLits d f.type ((cs.drop f.offset).take (P.cellsOf f.type))) = some [a, b] := by
    simp only [List.mapM_cons, List.mapM_nil, h0, h1]; rfl
  simp only [hc, hn, and_self, if_true, e2]; simp
theorem lit_i64 {a : Int} (h : I64 a) : (Lit.int .i64 a).wf = true := by
  unfold I64 at h
  simp [Lit.wf, IntKind.min, IntKind.max, IntKind.signed, IntKind.bits]; omega
theorem lit_u64 {a : Int} (h : U64 a) : (Lit.int .u64 a).wf = true := by
  unfold U64 at h
  simp [Lit.wf, IntKind.min, IntKind.max, IntKind.signed, IntKind.bits]; omega
set_option maxRecDepth 100000 in
theorem eq_ends {a b : Int} (ha : I64 a) (hb : I64 b) (w : World) : (Op.equalIn 9999 56 (.agg #[.int .i64 a, .int .i64 b]) (.agg #[.int .i64 a, .int .i64 b])).run Try.prog w = .ok true w := by
  have h1 := lit_i64 ha
  have h2 := lit_i64 hb
  refine eq_self (l := [.int .i64 a, .int .i64 b]) (by kernel_rfl) (by kernel_rfl) ?_ w
  exact kl_arr2 (d := 9) (cs := [.int .i64 a, .int .i64 b]) (a := [.int .i64 a]) (b := [.int .i64 b]) Try.underlying56 (by kernel_rfl) (show Try.prog.cellsOf 3 = 1 from by kernel_rfl) (show Try.prog.keyLits 9 3 [.int .i64 a] = some [.int .i64 a] from kl_int (d := 8) Try.underlying3 h1) (show Try.prog.keyLits 9 3 [.int .i64 b] = some [.int .i64 b] from kl_int (d := 8) Try.underlying3 h2)
set_option maxRecDepth 100000 in
theorem eq_cans {a b : Int} (ha : U64 a) (hb : U64 b) (w : World) : (Op.equalIn 9999 57 (.agg #[.int .u64 a, .int .u64 b]) (.agg #[.int .u64 a, .int .u64 b])).run Try.prog w = .ok true w := by
  have h1 := lit_u64 ha
  have h2 := lit_u64 hb
  refine eq_self (l := [.int .u64 a, .int .u64 b]) (by kernel_rfl) (by kernel_rfl) ?_ w
  exact kl_arr2 (d := 9) (cs := [.int .u64 a, .int .u64 b]) (a := [.int .u64 a]) (b := [.int .u64 b]) Try.underlying57 (by kernel_rfl) (show Try.prog.cellsOf 26 = 1 from by kernel_rfl) (show Try.prog.keyLits 9 26 [.int .u64 a] = some [.int .u64 a] from kl_int (d := 8) Try.underlying26 h1) (show Try.prog.keyLits 9 26 [.int .u64 b] = some [.int .u64 b] from kl_int (d := 8) Try.underlying26 h2)
set_option maxRecDepth 100000 in
theorem eq_fees {a b c d : Int} (ha : U64 a) (hb : U64 b) (hc : U64 c) (hd : U64 d) (w : World) : (Op.equalIn 9999 102 (.agg #[.int .u64 a, .int .u64 b, .int .u64 c, .int .u64 d]) (.agg #[.int .u64 a, .int .u64 b, .int .u64 c, .int .u64 d])).run Try.prog w = .ok true w := by
  have h1 := lit_u64 ha
  have h2 := lit_u64 hb
  have h3 := lit_u64 hc
  have h4 := lit_u64 hd
  refine eq_self (l := [.int .u64 a, .int .u64 b, .int .u64 c, .int .u64 d]) (by kernel_rfl) (by kernel_rfl) ?_ w
  have c2 : Try.prog.cellsOf 101 = 2 := by kernel_rfl
  have st : ∀ {x y : Int}, (Lit.int .u64 x).wf = true → (Lit.int .u64 y).wf = true → Try.prog.keyLits 9 101 [.int .u64 x, .int .u64 y] = some [.int .u64 x, .int .u64 y] := fun {x y} hx hy => kl_st2 (d := 8) (cs := [.int .u64 x, .int .u64 y]) (a := [.int .u64 x]) (b := [.int .u64 y]) Try.underlying101 (by rw [c2]; rfl) (by kernel_rfl) (show Try.prog.keyLits 8 26 [.int .u64 x] = some [.int .u64 x] from kl_int (d := 7) Try.underlying26 hx) (show Try.prog.keyLits 8 26 [.int .u64 y] = some [.int .u64 y] from kl_int (d := 7) Try.underlying26 hy)
  exact kl_arr2 (d := 9) (cs := [.int .u64 a, .int .u64 b, .int .u64 c, .int .u64 d]) (a := [.int .u64 a, .int .u64 b]) (b := [.int .u64 c, .int .u64 d]) Try.underlying102 (by kernel_rfl) c2 (st h1 h2) (st h3 h4)
end Go.Proofs.Ytcfpbemoocegfaa
