/- The contracts of Meter and Power of the reference implementation. -/
import Derived.Test.YtknfkibnocfjiaaDoorGMadeI
import Derived.Test.YtknfkibnocfjiaaDoorLawBase
import Derived.Test.YtknfkibnocfjiaaDoorPR1
namespace Go.Proofs.YtknfkibnocfjiaaDoor.P
open Go.RowKit Go.Proofs.YtknfkibnocfjiaaDoorW.PrintWords Go.Proofs.YtknfkibnocfjiaaDoorW.PrintLast Go.Proofs.YtknfkibnocfjiaaDoorW.PrintMore Go.Proofs.YtknfkibnocfjiaaDoor.M
set_option linter.unusedVariables false
theorem rmeter_f (m : S25) : cohousingref27_Meter.f m.f0 m.f1 m.f2 m.f3 m.f4.f0 m.f4.f1 = some (validM m) := by
  unfold cohousingref27_Meter.f validM
  by_cases h1 : m.f0 ≥ 1 <;> by_cases h2 : m.f0 ≤ 1000 <;> by_cases h3 : m.f1 ≥ 3 <;> by_cases h4 : m.f1 ≤ 6 <;> by_cases h5 : m.f2 ≥ 1 <;> by_cases h6 : m.f2 ≤ 10000 <;> by_cases h7 : m.f3 ≥ 0 <;> by_cases h8 : m.f3 ≤ 100 <;>
    simp [h1, h2, h3, h4, h5, h6, h7, h8, inB, rstretch_f] <;> omega
theorem rmeter_calls (m : S25) (b : Bool) (hb : validM m = b) (w : World) : Calls Tryd.prog 31 #[.agg #[.int .i64 m.f0, .int .i64 m.f1, .int .i64 m.f2, .int .i64 m.f3, .int .i64 m.f4.f0, .int .i64 m.f4.f1]] w fun e w' => e = .returned (.bool b) ∧ Below w.heap.size w w' :=
  (cohousingref27_Meter.calls m.f0 m.f1 m.f2 m.f3 m.f4.f0 m.f4.f1 b w (by rw [rmeter_f, hb])).mono fun e w' h => by first | exact h | exact ⟨h.1, h.2.below⟩
theorem rpower_f {d : Int} (h0 : 0 ≤ d) (h6 : d ≤ 6) : cohousingref27_Power.f 8 d = some (pow10 d) := by
  have : d = 0 ∨ d = 1 ∨ d = 2 ∨ d = 3 ∨ d = 4 ∨ d = 5 ∨ d = 6 := by omega
  have e0 : cohousingref27_Power.f 8 0 = some (pow10 0) := by kernel_rfl
  have e1 : cohousingref27_Power.f 8 1 = some (pow10 1) := by kernel_rfl
  have e2 : cohousingref27_Power.f 8 2 = some (pow10 2) := by kernel_rfl
  have e3 : cohousingref27_Power.f 8 3 = some (pow10 3) := by kernel_rfl
  have e4 : cohousingref27_Power.f 8 4 = some (pow10 4) := by kernel_rfl
  have e5 : cohousingref27_Power.f 8 5 = some (pow10 5) := by kernel_rfl
  have e6 : cohousingref27_Power.f 8 6 = some (pow10 6) := by kernel_rfl
  rcases this with rfl | rfl | rfl | rfl | rfl | rfl | rfl <;> assumption
theorem rpower_calls (d : Int) (h0 : 0 ≤ d) (h6 : d ≤ 6) (w : World) : Calls Tryd.prog 34 #[.int .i64 d] w fun e w' => e = .returned (.int .i64 (pow10 d)) ∧ Below w.heap.size w w' :=
  (cohousingref27_Power.calls 8 d (pow10 d) w (rpower_f h0 h6)).mono fun e w' h => ⟨h.1, h.2.below⟩
end Go.Proofs.YtknfkibnocfjiaaDoor.P
