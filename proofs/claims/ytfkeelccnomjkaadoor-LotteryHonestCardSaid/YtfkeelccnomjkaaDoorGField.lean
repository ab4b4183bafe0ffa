/- Residues as the package lottery computes them: plus, minus, times, inverse, between; and those of the reference. -/
import Derived.Test.YtfkeelccnomjkaaDoorPRA
import Derived.Test.YtfkeelccnomjkaaDoorQPrime
import Derived.Test.YtfkeelccnomjkaaDoorEvLib
namespace Go.Proofs.YtfkeelccnomjkaaDoor.P
open Go.RowKit Go.Proofs.YtfkeelccnomjkaaDoorW.PrintWords Go.Proofs.YtfkeelccnomjkaaDoorW.PrintLast Go.Proofs.YtfkeelccnomjkaaDoorW.PrintMore Go.Proofs.YtfkeelccnomjkaaDoor.M Go.Proofs.YtfkeelccnomjkaaDoor.QF
set_option linter.unusedVariables false
set_option linter.unusedSimpArgs false
/-- Is it a residue? -/
def rs (a : Int) : Prop := 0 ≤ a ∧ a < 1073741789
def inB (n lo hi : Int) : Bool := decide (lo ≤ n) && decide (n ≤ hi)
def isR (n : Int) : Bool := inB n 0 1073741788
theorem isR_iff {n : Int} : isR n = true ↔ rs n := by
  unfold isR inB rs
  simp only [Bool.and_eq_true, decide_eq_true_eq]
  omega
theorem rs_mod (a : Int) : rs (a % 1073741789) := ⟨Int.emod_nonneg _ (by decide), Int.emod_lt_of_pos _ (by decide)⟩
theorem rs_cg {a b : Int} (ha : rs a) (h : Cg 1073741789 a b) : a = b % 1073741789 := by
  have := h.emod
  rw [show ((1073741789 : Nat) : Int) = 1073741789 from rfl, Int.emod_eq_of_lt ha.1 ha.2] at this
  exact this
theorem wrap_ok {x : Int} (h : -9223372036854775808 ≤ x ∧ x ≤ 9223372036854775807) : wrap64 x = x := Go.IntWalk.wrap64_in _ h
theorem mul_rs {a b : Int} (ha : rs a) (hb : rs b) : 0 ≤ a * b ∧ a * b ≤ 1152921504606846976 := by
  unfold rs at ha hb
  refine ⟨Int.mul_nonneg ha.1 hb.1, ?_⟩
  have h1 : a * b ≤ 1073741789 * b := Int.mul_le_mul_of_nonneg_right (by omega) hb.1
  have h2 : (1073741789 : Int) * b ≤ 1073741789 * 1073741789 := Int.mul_le_mul_of_nonneg_left (by omega) (by decide)
  omega
theorem tmod_pos {a b : Int} (ha : 0 ≤ a) : Int.tmod a b = a % b := Int.tmod_eq_emod_of_nonneg ha
theorem plus_f {a b : Int} (ha : rs a) (hb : rs b) : lottery_residue_plus.f a b = some ((a + b) % 1073741789) := by
  unfold rs at ha hb
  unfold lottery_residue_plus.f
  rw [wrap_ok (by omega), tmod_pos (by omega)]
theorem minus_f {a b : Int} (ha : rs a) (hb : rs b) : lottery_residue_minus.f a b = some ((a - b) % 1073741789) := by
  unfold rs at ha hb
  unfold lottery_residue_minus.f
  rw [wrap_ok (x := a + 1073741789) (by omega), wrap_ok (by omega), tmod_pos (by omega)]
  rw [show a + 1073741789 - b = a - b + 1073741789 by omega, Int.add_emod_right]
theorem times_f {a b : Int} (ha : rs a) (hb : rs b) : lottery_residue_times.f a b = some (a * b % 1073741789) := by
  have h := mul_rs ha hb
  unfold lottery_residue_times.f
  rw [wrap_ok (by omega), tmod_pos (by omega)]
theorem between_f (n lo hi : Int) : lottery_between.f n lo hi = some (inB n lo hi) := by
  unfold lottery_between.f inB
  by_cases h : lo ≤ n
  · rw [if_pos h, decide_eq_true h, Bool.true_and]
  · rw [if_neg h, decide_eq_false h, Bool.false_and]
theorem cgm (a : Int) : Cg 1073741789 (a % 1073741789) a := Cg.mod 1073741789 a
/-- What inverse computes, as a power. -/
theorem inv_loop : ∀ n : Nat, ∀ a o : Int, n ≤ 1073741787 → rs a → rs o → ∃ r, Ev (fun k => lottery_residue_inverse.l0 k a o (n : Int)) r ∧ rs r ∧ Cg 1073741789 r (o * a ^ n) := by
  intro n
  induction n using Nat.strongRecOn with
  | ind n ih =>
    intro a o hn ha ho
    by_cases h0 : n = 0
    · subst h0
      refine ⟨o, Ev.step (fun k => by rw [lottery_residue_inverse.l0]) (evNeg (by decide) (Ev.now _)), ho, ?_⟩
      rw [Int.pow_zero, Int.mul_one]; exact Cg.refl _ _
    · have hdiv : wrap64 (Int.tdiv (n : Int) 2) = ((n / 2 : Nat) : Int) := by
        rw [Int.tdiv_eq_ediv_of_nonneg (by omega), wrap_ok (by omega)]; omega
      have hmod : Int.tmod (n : Int) 2 = ((n % 2 : Nat) : Int) := by rw [tmod_pos (by omega)]; omega
      have hsq := rs_mod (a * a)
      by_cases h1 : n % 2 = 1
      · obtain ⟨r, e, h2, h3⟩ := ih (n / 2) (by omega) (a * a % 1073741789) (o * a % 1073741789) (by omega) hsq (rs_mod _)
        refine ⟨r, Ev.step (fun k => by rw [lottery_residue_inverse.l0]) ?_, h2, h3.trans ?_⟩
        · refine evPos (by omega) (evPos (by rw [hmod, h1]; rfl) ?_)
          refine evSome (times_f ho ha) (evSome (times_f ha ha) ?_)
          rw [hdiv]; exact e
        · refine ((cgm (o * a)).mul ((cgm (a * a)).pow (n / 2))).trans (Cg.of_eq ?_)
          have hn2 : n = 2 * (n / 2) + 1 := by omega
          generalize n / 2 = m at *
          subst hn2
          rw [Int.pow_succ, Int.pow_mul, Int.mul_assoc, Int.mul_comm a, show a ^ 2 = a * a by rw [Int.pow_succ, Int.pow_succ, Int.pow_zero, Int.one_mul]]
      · obtain ⟨r, e, h2, h3⟩ := ih (n / 2) (by omega) (a * a % 1073741789) o (by omega) hsq ho
        refine ⟨r, Ev.step (fun k => by rw [lottery_residue_inverse.l0]) ?_, h2, h3.trans ?_⟩
        · refine evPos (by omega) (evNeg (by rw [hmod]; omega) ?_)
          refine evSome (times_f ha ha) ?_
          rw [hdiv]; exact e
        · refine ((Cg.refl _ o).mul ((cgm (a * a)).pow (n / 2))).trans (Cg.of_eq ?_)
          have hn2 : n = 2 * (n / 2) := by omega
          generalize n / 2 = m at *
          subst hn2
          rw [Int.pow_mul, show a ^ 2 = a * a by rw [Int.pow_succ, Int.pow_succ, Int.pow_zero, Int.one_mul]]
@[irreducible] def invF (a : Int) : Int := a ^ (1073741789 - 2) % 1073741789
theorem invF_rs (a : Int) : rs (invF a) := by unfold invF; exact rs_mod _
theorem invF_cg (a : Int) : Cg 1073741789 (invF a) (a ^ (1073741789 - 2)) := by unfold invF; exact cgm _
theorem inverse_ev {a : Int} (ha : rs a) : Ev (fun k => lottery_residue_inverse.f k a) (invF a) := by
  obtain ⟨r, e, h2, h3⟩ := inv_loop 1073741787 a 1 (Nat.le_refl _) ha ⟨by decide, by decide⟩
  rw [Int.one_mul] at h3
  have hr : r = invF a := by unfold invF; exact rs_cg h2 h3
  rw [← hr]
  exact e
/-! ### Contracts -/
theorem plus_calls (a b r : Int) (ha : rs a) (hb : rs b) (hr : (a + b) % 1073741789 = r) (W : World) : Calls Tryd.prog 40 #[.int .i64 a, .int .i64 b] W fun e w' => e = .returned (.int .i64 r) ∧ Drawn0 W w' :=
  lottery_residue_plus.calls a b r W (by rw [plus_f ha hb, hr])
theorem minus_calls (a b r : Int) (ha : rs a) (hb : rs b) (hr : (a - b) % 1073741789 = r) (W : World) : Calls Tryd.prog 53 #[.int .i64 a, .int .i64 b] W fun e w' => e = .returned (.int .i64 r) ∧ Drawn0 W w' :=
  lottery_residue_minus.calls a b r W (by rw [minus_f ha hb, hr])
theorem times_calls (a b r : Int) (ha : rs a) (hb : rs b) (hr : a * b % 1073741789 = r) (W : World) : Calls Tryd.prog 45 #[.int .i64 a, .int .i64 b] W fun e w' => e = .returned (.int .i64 r) ∧ Drawn0 W w' :=
  lottery_residue_times.calls a b r W (by rw [times_f ha hb, hr])
theorem inverse_calls (a : Int) (ha : rs a) (W : World) : Calls Tryd.prog 55 #[.int .i64 a] W fun e w' => e = .returned (.int .i64 (invF a)) ∧ Drawn0 W w' := by
  obtain ⟨k, hk⟩ := (inverse_ev ha).rounds
  exact lottery_residue_inverse.calls k a _ W hk
theorem between_calls (n lo hi : Int) (b : Bool) (hb : inB n lo hi = b) (W : World) : Calls Tryd.prog 29 #[.int .i64 n, .int .i64 lo, .int .i64 hi] W fun e w' => e = .returned (.bool b) ∧ Drawn0 W w' :=
  lottery_between.calls n lo hi b W (by rw [between_f, hb])
end Go.Proofs.YtfkeelccnomjkaaDoor.P
