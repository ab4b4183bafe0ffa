/- Readings as keys of a map. -/
import Derived.Test.YtknfkibnocfjiaaDoorGCollect
import Derived.DeepKeys5
namespace Go.Proofs.YtknfkibnocfjiaaDoor.P
open Go.RowKit Go.Proofs.YtknfkibnocfjiaaDoorW.PrintWords Go.Proofs.YtknfkibnocfjiaaDoorW.PrintLast Go.Proofs.YtknfkibnocfjiaaDoorW.PrintMore Go.Proofs.YtknfkibnocfjiaaDoor.M
open Go.Maps (Keyed int_keyed keyOf_int_mk)
set_option linter.unusedVariables false
set_option linter.unusedSimpArgs false
theorem mk_size : Tryd.prog.types.size + 2 ≤ 10000 := of_decide_eq_true (by kernel_rfl)
theorem mk_row : 43 < Tryd.prog.types.size := of_decide_eq_true (by kernel_rfl)
theorem key43 : Keyed Tryd.prog 43 := Keyed.of_law (deep_law_gate (by kernel_rfl) mk_size mk_row (by kernel_rfl) (by kernel_rfl))
theorem mk_succ : Tryd.prog.types.size + 1 = (Tryd.prog.types.size - 1 + 1) + 1 := by have := mk_row; omega
theorem mk_kt : Tryd.prog.keyType 43 = true := by kernel_rfl
theorem mk_c43 : Tryd.prog.cellsOf 43 = 4 := by kernel_rfl
theorem mk_c3 : Tryd.prog.cellsOf 3 = 1 := by kernel_rfl
theorem lits_int (D : Nat) (n : Int) (h : (Lit.int .i64 n).wf = true) : Tryd.prog.keyLits (D + 1) 3 [.int .i64 n] = some [.int .i64 n] := by
  unfold Program.keyLits
  rw [Tryd.underlying3]
  simp [h]
theorem lits43 (D : Nat) (a b c d : Int) (h0 : (Lit.int .i64 a).wf = true) (h1 : (Lit.int .i64 b).wf = true) (h2 : (Lit.int .i64 c).wf = true) (h3 : (Lit.int .i64 d).wf = true) : Tryd.prog.keyLits (D + 1 + 1) 43 [.int .i64 a, .int .i64 b, .int .i64 c, .int .i64 d] = some [.int .i64 a, .int .i64 b, .int .i64 c, .int .i64 d] := by
  unfold Program.keyLits
  rw [Tryd.underlying43]
  simp [mk_c43, mk_c3, lits_int, h0, h1, h2, h3, List.mapM_cons]
theorem key43_lit (x : S43) (h0 : (Lit.int .i64 x.f0).wf = true) (h1 : (Lit.int .i64 x.f1).wf = true) (h2 : (Lit.int .i64 x.f2).wf = true) (h3 : (Lit.int .i64 x.f3).wf = true) : ∃ kl, keyOf Tryd.prog 43 (enc43 x) = some kl := by
  have hl := lits43 (Tryd.prog.types.size - 1) x.f0 x.f1 x.f2 x.f3 h0 h1 h2 h3
  rw [← mk_succ] at hl
  refine ⟨.string (keyBytes [.int .i64 x.f0, .int .i64 x.f1, .int .i64 x.f2, .int .i64 x.f3]), ?_⟩
  unfold keyOf
  rw [Tryd.underlying43]
  have hf : (enc43 x).formed Tryd.prog 43 = true := by
    unfold enc43 Value.formed
    rw [Tryd.underlying43, mk_c43]; rfl
  simp only [mk_kt, hf, Bool.and_self, if_true]
  have hc : (enc43 x).cells.toList = [.int .i64 x.f0, .int .i64 x.f1, .int .i64 x.f2, .int .i64 x.f3] := rfl
  rw [hc, hl]; rfl
end Go.Proofs.YtknfkibnocfjiaaDoor.P
