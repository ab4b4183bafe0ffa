/- The number 1073741789 is a prime. -/
import Derived.Test.YtfkeelccnomjkaaDoorQField
namespace Go.Proofs.YtfkeelccnomjkaaDoor.QF
set_option linter.unusedVariables false
/-- None of the k numbers from d on divides n. -/
def noDiv (n : Nat) : Nat → Nat → Bool
  | 0, _ => true
  | k + 1, d => (n % d != 0) && noDiv n k (d + 1)
theorem noDiv_spec {n : Nat} : ∀ (k d : Nat), noDiv n k d = true → ∀ x, d ≤ x → x < d + k → ¬ x ∣ n
  | 0, d, _, x, h1, h2 => by omega
  | k + 1, d, h, x, h1, h2 => by
    unfold noDiv at h
    rw [Bool.and_eq_true, bne_iff_ne] at h
    rcases Nat.eq_or_lt_of_le h1 with e | e
    · subst e; exact fun hd => h.1 (Nat.mod_eq_zero_of_dvd hd)
    · exact noDiv_spec k (d + 1) h.2 x e (by omega)
def noDivs (n m : Nat) : Nat → Bool
  | 0 => true
  | k + 1 => noDiv n m (2 + m * k) && noDivs n m k
theorem noDivs_spec {n m : Nat} : ∀ (k : Nat), noDivs n m k = true → ∀ x, 2 ≤ x → x < 2 + m * k → ¬ x ∣ n
  | 0, _, x, h1, h2 => by simp at h2; omega
  | k + 1, h, x, h1, h2 => by
    unfold noDivs at h
    rw [Bool.and_eq_true] at h
    rcases Nat.lt_or_ge x (2 + m * k) with e | e
    · exact noDivs_spec k h.2 x h1 e
    · exact noDiv_spec m _ h.1 x e (by rw [Nat.mul_succ] at h2; omega)
theorem prime_of {n r : Nat} (h2 : 2 ≤ n) (hr : n < r * r) (h : ∀ x, 2 ≤ x → x < r → ¬ x ∣ n) : Pr n := by
  refine ⟨h2, fun d hd => ?_⟩
  obtain ⟨e, rfl⟩ := hd
  have hd0 : d ≠ 0 := fun e0 => by subst e0; simp at h2
  have he0 : e ≠ 0 := fun e0 => by subst e0; simp at h2
  by_cases hd1 : d = 1
  · exact .inl hd1
  · right
    by_cases he1 : e = 1
    · rw [he1, Nat.mul_one]
    · exfalso
      have h3 : r ≤ d := Nat.not_lt.1 fun hlt => h d (by omega) hlt (Nat.dvd_mul_right d e)
      have h4 : r ≤ e := Nat.not_lt.1 fun hlt => h e (by omega) hlt (Nat.dvd_mul_left e d)
      have := Nat.mul_le_mul h3 h4
      omega
theorem q_prime : Pr 1073741789 :=
  prime_of (r := 32768) (by decide) (by decide) (fun x h1 h3 => noDivs_spec (m := 182) 181 (by decide +kernel) x h1 (by omega))
end Go.Proofs.YtfkeelccnomjkaaDoor.QF
