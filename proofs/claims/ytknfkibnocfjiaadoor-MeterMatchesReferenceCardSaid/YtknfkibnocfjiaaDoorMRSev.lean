/- Sums over meters, and plus of the reference implementation. -/
import Derived.Test.YtknfkibnocfjiaaDoorGRValid
import Derived.Test.YtknfkibnocfjiaaDoorPR4
namespace Go.Proofs.YtknfkibnocfjiaaDoor.P
open Go.RowKit Go.Proofs.YtknfkibnocfjiaaDoorW.PrintWords Go.Proofs.YtknfkibnocfjiaaDoorW.PrintLast Go.Proofs.YtknfkibnocfjiaaDoorW.PrintMore Go.Proofs.YtknfkibnocfjiaaDoor.M
set_option linter.unusedVariables false
set_option linter.unusedSimpArgs false
/-- The sum from a meter on. -/
theorem sevF_ok {r : List S43} {d : S23} {known : Int} {l : List S25} {i : Nat} (hi : i < l.length) {s : Int × Int} {T : (Int × Int) × Int} (hT : T = sevF r d known (l.drop i) s) (h : (boundsL (rd_T25 l (i : Int)) r d known).2 = 0) :
    T = sevF r d known (l.drop (i + 1)) (wrap64 (s.1 + (boundsL (rd_T25 l (i : Int)) r d known).1.1), wrap64 (s.2 + (boundsL (rd_T25 l (i : Int)) r d known).1.2)) := by
  rw [hT, List.drop_eq_getElem_cons hi, ← rd25_get hi, sevF, if_pos h]
theorem sevF_bad {r : List S43} {d : S23} {known : Int} {l : List S25} {i : Nat} (hi : i < l.length) {s : Int × Int} {T : (Int × Int) × Int} (hT : T = sevF r d known (l.drop i) s) (h : (boundsL (rd_T25 l (i : Int)) r d known).2 ≠ 0) :
    T = ((0, 0), (boundsL (rd_T25 l (i : Int)) r d known).2) := by
  rw [hT, List.drop_eq_getElem_cons hi, ← rd25_get hi, sevF, if_neg h]
theorem sevF_end {r : List S43} {d : S23} {known : Int} {l : List S25} {i : Nat} (hi : i = l.length) {s : Int × Int} {T : (Int × Int) × Int} (hT : T = sevF r d known (l.drop i) s) : T = (s, 0) := by
  rw [hT, hi, List.drop_length, sevF]
theorem plus_wrap (a b c e : Int) (W : World) : Calls Tryd.prog 40 #[.agg #[.int .i64 a, .int .i64 b], .agg #[.int .i64 c, .int .i64 e]] W fun o w' => o = .returned (.agg #[.int .i64 (wrap64 (a + c)), .int .i64 (wrap64 (b + e))]) ∧ Below W.heap.size W w' :=
  (cohousingref27_plus.calls a b c e _ _ W rfl).mono fun e w' h => by first | exact h | exact ⟨h.1, h.2.below⟩
end Go.Proofs.YtknfkibnocfjiaaDoor.P
