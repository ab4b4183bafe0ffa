/- The contracts of Meter, Power, Day, Shown of the reference implementation, as MeterMatchesReference wants them. -/
import Derived.Test.YtknfkibnocfjiaaDoorLawBase
import Derived.Test.YtknfkibnocfjiaaDoorPR1
namespace Go.Proofs.YtknfkibnocfjiaaDoor.P
open Go.RowKit Go.Proofs.YtknfkibnocfjiaaDoorW.PrintWords Go.Proofs.YtknfkibnocfjiaaDoorW.PrintLast Go.Proofs.YtknfkibnocfjiaaDoorW.PrintMore Go.Proofs.YtknfkibnocfjiaaDoor.M
set_option linter.unusedVariables false
theorem qmeter_f (m : S25) : cohousingref27_Meter.f m.f0 m.f1 m.f2 m.f3 m.f4.f0 m.f4.f1 = some (validM m) := by
  unfold cohousingref27_Meter.f validM
  by_cases h1 : m.f0 ≥ 1 <;> by_cases h2 : m.f0 ≤ 1000 <;> by_cases h3 : m.f1 ≥ 3 <;> by_cases h4 : m.f1 ≤ 6 <;> by_cases h5 : m.f2 ≥ 1 <;> by_cases h6 : m.f2 ≤ 10000 <;> by_cases h7 : m.f3 ≥ 0 <;> by_cases h8 : m.f3 ≤ 100 <;>
    simp [h1, h2, h3, h4, h5, h6, h7, h8, inB, rstretch_f] <;> omega
theorem qmeter_calls (m : S25) (b : Bool) (hb : validM m = b) (w : World) : Calls Tryd.prog 31 #[.agg #[.int .i64 m.f0, .int .i64 m.f1, .int .i64 m.f2, .int .i64 m.f3, .int .i64 m.f4.f0, .int .i64 m.f4.f1]] w fun e w' => e = .returned (.bool b) ∧ Below w.heap.size w w' :=
  (cohousingref27_Meter.calls m.f0 m.f1 m.f2 m.f3 m.f4.f0 m.f4.f1 b w (by rw [qmeter_f, hb])).mono fun e w' h => by first | exact h | exact ⟨h.1, h.2.below⟩
theorem qpower_f {d : Int} (h0 : 0 ≤ d) (h6 : d ≤ 6) : cohousingref27_Power.f 8 d = some (pow10 d) := by
  have : d = 0 ∨ d = 1 ∨ d = 2 ∨ d = 3 ∨ d = 4 ∨ d = 5 ∨ d = 6 := by omega
  have e0 : cohousingref27_Power.f 8 0 = some (pow10 0) := by kernel_rfl
  have e1 : cohousingref27_Power.f 8 1 = some (pow10 1) := by kernel_rfl
  have e2 : cohousingref27_Power.f 8 2 = some (pow10 2) := by kernel_rfl
  have e3 : cohousingref27_Power.f 8 3 = some (pow10 3) := by kernel_rfl
  have e4 : cohousingref27_Power.f 8 4 = some (pow10 4) := by kernel_rfl
  have e5 : cohousingref27_Power.f 8 5 = some (pow10 5) := by kernel_rfl
  have e6 : cohousingref27_Power.f 8 6 = some (pow10 6) := by kernel_rfl
  rcases this with rfl | rfl | rfl | rfl | rfl | rfl | rfl <;> assumption
theorem qpower_calls (d : Int) (h0 : 0 ≤ d) (h6 : d ≤ 6) (w : World) : Calls Tryd.prog 34 #[.int .i64 d] w fun e w' => e = .returned (.int .i64 (pow10 d)) ∧ Below w.heap.size w w' :=
  (cohousingref27_Power.calls 8 d (pow10 d) w (qpower_f h0 h6)).mono fun e w' h => ⟨h.1, h.2.below⟩
theorem qday_f (n : Int) : cohousingref27_Day.f n = some (inB n 0 36524) := by
  unfold cohousingref27_Day.f inB
  by_cases h : n ≥ 0
  · rw [if_pos h, decide_eq_true h, Bool.true_and]
  · rw [if_neg h, decide_eq_false h, Bool.false_and]
theorem qday_calls (n : Int) (b : Bool) (hb : inB n 0 36524 = b) (w : World) : Calls Tryd.prog 32 #[.int .i64 n] w fun e w' => e = .returned (.bool b) ∧ Below w.heap.size w w' :=
  (cohousingref27_Day.calls n b w (by rw [qday_f, hb])).mono fun e w' h => ⟨h.1, h.2.below⟩
theorem qshown_f (m : S25) (a b : Int) (h0 : 0 ≤ m.f1) (h6 : m.f1 ≤ 6) (ha0 : 0 ≤ a) (ha : a < pow10 m.f1) (hb0 : 0 ≤ b) (hb : b < pow10 m.f1) : cohousingref27_Shown.f 8 m.f0 m.f1 m.f2 m.f3 m.f4.f0 m.f4.f1 a b = some (shownF (pow10 m.f1) a b) := by
  have hp := pow10_bound h0 h6
  unfold cohousingref27_Shown.f
  rw [qpower_f h0 h6, Option.bind_some, if_neg (by omega)]
  generalize pow10 m.f1 = p at *
  have e1 : wrap64 (b - a) = b - a := Go.IntWalk.wrap64_in _ (by omega)
  have e2 : wrap64 (b - a + p) = b - a + p := Go.IntWalk.wrap64_in _ (by omega)
  rw [e1, e2]
  congr 1
  rw [Int.tmod_eq_emod_of_nonneg (by omega)]
  unfold shownF
  by_cases h : b - a < 0
  · rw [if_pos h]; exact Int.emod_eq_of_lt (by omega) (by omega)
  · rw [if_neg h, Int.add_emod_right]; exact Int.emod_eq_of_lt (by omega) (by omega)
theorem qshown_calls (m : S25) (a b : Int) (h0 : 0 ≤ m.f1) (h6 : m.f1 ≤ 6) (ha0 : 0 ≤ a) (ha : a < pow10 m.f1) (hb0 : 0 ≤ b) (hb : b < pow10 m.f1) (w : World) : Calls Tryd.prog 35 #[.agg #[.int .i64 m.f0, .int .i64 m.f1, .int .i64 m.f2, .int .i64 m.f3, .int .i64 m.f4.f0, .int .i64 m.f4.f1], .int .i64 a, .int .i64 b] w fun e w' => e = .returned (.int .i64 (shownF (pow10 m.f1) a b)) ∧ Below w.heap.size w w' :=
  (cohousingref27_Shown.calls 8 m.f0 m.f1 m.f2 m.f3 m.f4.f0 m.f4.f1 a b _ w (qshown_f m a b h0 h6 ha0 ha hb0 hb)).mono fun e w' h => by first | exact h | exact ⟨h.1, h.2.below⟩
end Go.Proofs.YtknfkibnocfjiaaDoor.P
