/- Plain facts on what Clean and Bounds compute: the parts of a clean list are as they should be; their bounds without wraps. -/
import Derived.Test.YtknfkibnocfjiaaDoorGSevSpec
namespace Go.Proofs.YtknfkibnocfjiaaDoor.P
open Go.RowKit Go.Proofs.YtknfkibnocfjiaaDoorW.PrintWords Go.Proofs.YtknfkibnocfjiaaDoorW.PrintMore Go.Proofs.YtknfkibnocfjiaaDoor.M
set_option linter.unusedVariables false
set_option linter.unusedSimpArgs false

/-! ### One part -/
def inP (d : S23) (a b : Int) : Int := mx 0 (mn b d.f1 - mx a d.f0)
def loP (m : S25) (d : S23) (x : Part) : Int := if x.k = true then mx 0 (x.s - m.f2 * (x.b - x.a - inP d x.a x.b)) else 0
def hiP (m : S25) (d : S23) (x : Part) : Int := if x.k = true then mn x.s (m.f2 * inP d x.a x.b) else m.f2 * inP d x.a x.b
def bP (m : S25) (d : S23) (x : Part) : Int × Int := ((1000 * loP m d x + m.f3 + 999) / (1000 + m.f3), 1000 * hiP m d x / (1000 - m.f3))
/-- A part as it should be. -/
def POk (m : S25) (x : Part) : Prop := 0 ≤ x.a ∧ x.a ≤ x.b ∧ x.b ≤ 36525 ∧ 0 ≤ x.s ∧ x.s ≤ m.f2 * (x.b - x.a) ∧ x.s ≤ 2000000
theorem inP_bd {d : S23} {a b : Int} (h : a ≤ b) : 0 ≤ inP d a b ∧ inP d a b ≤ b - a := by unfold inP mx mn; split <;> split <;> split <;> omega
theorem mul_mono {a b c : Int} (hc : 0 ≤ c) (h : a ≤ b) : c * a ≤ c * b := Int.mul_le_mul_of_nonneg_left h hc
theorem wrap_id {x : Int} (h1 : -9223372036854775808 ≤ x) (h2 : x ≤ 9223372036854775807) : wrap64 x = x := Go.IntWalk.wrap64_in _ ⟨h1, h2⟩
theorem tdiv_pos {a b : Int} (h : 0 ≤ a) : Int.tdiv a b = a / b := Int.tdiv_eq_ediv_of_nonneg h
/-- What is in and out of the days asked for, times the most a day. -/
theorem loP_bd {m : S25} {d : S23} {x : Part} (hm : 1 ≤ m.f2) (hx : POk m x) : 0 ≤ loP m d x ∧ loP m d x ≤ hiP m d x ∧ hiP m d x ≤ m.f2 * inP d x.a x.b := by
  obtain ⟨h1, h2, h3, h4, h5, h6⟩ := hx
  obtain ⟨hi0, hi1⟩ := inP_bd (d := d) h2
  have hmi := mul_mono (show (0 : Int) ≤ m.f2 by omega) hi0
  rw [Int.mul_zero] at hmi
  have hsplit : m.f2 * (x.b - x.a) = m.f2 * (x.b - x.a - inP d x.a x.b) + m.f2 * inP d x.a x.b := by rw [← Int.mul_add]; congr 1; omega
  have hmo := mul_mono (show (0 : Int) ≤ m.f2 by omega) (show 0 ≤ x.b - x.a - inP d x.a x.b by omega)
  rw [Int.mul_zero] at hmo
  unfold loP hiP
  generalize m.f2 * (x.b - x.a - inP d x.a x.b) = o at *
  generalize m.f2 * inP d x.a x.b = i at *
  cases x.k
  · simp only [Bool.false_eq_true, if_false]; omega
  · simp only [if_true]; unfold mx mn; split <;> split <;> omega
theorem bP_bd {m : S25} {d : S23} {x : Part} (hm : 1 ≤ m.f2 ∧ m.f2 ≤ 10000) (hd : 0 ≤ m.f3 ∧ m.f3 ≤ 100) (hx : POk m x) : 0 ≤ (bP m d x).1 ∧ (bP m d x).1 ≤ loP m d x ∧ hiP m d x ≤ (bP m d x).2 ∧ (bP m d x).2 ≤ 500000000 := by
  obtain ⟨l0, l1, l2⟩ := loP_bd (d := d) hm.1 hx
  obtain ⟨h1, h2, h3, h4, h5, h6⟩ := hx
  obtain ⟨hi0, hi1⟩ := inP_bd (d := d) h2
  have hM : m.f2 * inP d x.a x.b ≤ 10000 * 36525 := Int.le_trans (mul_mono (by omega) (show inP d x.a x.b ≤ 36525 by omega)) (by have := Int.mul_le_mul_of_nonneg_right hm.2 (show (0 : Int) ≤ 36525 by omega); omega)
  unfold bP
  generalize loP m d x = lo at *
  generalize hiP m d x = hi at *
  have hq : 0 ≤ lo * m.f3 := Int.mul_nonneg l0 hd.1
  have hq2 : 0 ≤ hi * m.f3 := Int.mul_nonneg (by omega) hd.1
  refine ⟨Int.ediv_nonneg (by omega) (by omega), ?_, ?_, ?_⟩
  · have : (1000 * lo + m.f3 + 999) / (1000 + m.f3) < lo + 1 := by
      apply Int.ediv_lt_of_lt_mul (by omega)
      rw [Int.add_mul, Int.mul_add]; omega
    omega
  · apply Int.le_ediv_of_mul_le (by omega)
    rw [Int.mul_sub]; omega
  · have : 1000 * hi / (1000 - m.f3) ≤ 1000 * hi / 900 := by
      apply Int.le_ediv_of_mul_le (by omega)
      have h := Int.ediv_mul_le (1000 * hi) (show (1000 - m.f3) ≠ 0 by omega)
      have hn : 0 ≤ 1000 * hi / (1000 - m.f3) := Int.ediv_nonneg (by omega) (by omega)
      have := Int.mul_le_mul_of_nonneg_left (show (900 : Int) ≤ 1000 - m.f3 by omega) hn
      omega
    omega
theorem bW_eq {m : S25} {d : S23} {x : Part} (hm : 1 ≤ m.f2 ∧ m.f2 ≤ 10000) (hd : 0 ≤ m.f3 ∧ m.f3 ≤ 100) (hs : 0 ≤ d.f0 ∧ d.f0 < d.f1 ∧ d.f1 ≤ 36525) (hx : POk m x) : bW m d x = bP m d x := by
  obtain ⟨l0, l1, l2⟩ := loP_bd (d := d) hm.1 hx
  obtain ⟨b0, b1, b2, b3⟩ := bP_bd (d := d) hm hd hx
  obtain ⟨h1, h2, h3, h4, h5, h6⟩ := hx
  obtain ⟨hi0, hi1⟩ := inP_bd (d := d) h2
  have e1 : wrap64 (1000 + m.f3) = 1000 + m.f3 := wrap_id (by omega) (by omega)
  have e2 : wrap64 (1000 - m.f3) = 1000 - m.f3 := wrap_id (by omega) (by omega)
  have e3 : mx 0 (wrap64 (mn x.b d.f1 - mx x.a d.f0)) = inP d x.a x.b := by
    unfold inP
    rw [wrap_id]
    · unfold mx mn; split <;> split <;> omega
    · unfold mx mn; split <;> split <;> omega
  have e4 : wrap64 (wrap64 (x.b - x.a) - inP d x.a x.b) = x.b - x.a - inP d x.a x.b := by
    rw [wrap_id (x := x.b - x.a) (by omega) (by omega), wrap_id (by omega) (by omega)]
  have hM : m.f2 * inP d x.a x.b ≤ 10000 * 36525 := Int.le_trans (mul_mono (by omega) (show inP d x.a x.b ≤ 36525 by omega)) (by have := Int.mul_le_mul_of_nonneg_right hm.2 (show (0 : Int) ≤ 36525 by omega); omega)
  have hO : m.f2 * (x.b - x.a - inP d x.a x.b) ≤ 10000 * 36525 := Int.le_trans (mul_mono (by omega) (show x.b - x.a - inP d x.a x.b ≤ 36525 by omega)) (by have := Int.mul_le_mul_of_nonneg_right hm.2 (show (0 : Int) ≤ 36525 by omega); omega)
  have hM0 : 0 ≤ m.f2 * inP d x.a x.b := Int.mul_nonneg (by omega) hi0
  have hO0 : 0 ≤ m.f2 * (x.b - x.a - inP d x.a x.b) := Int.mul_nonneg (by omega) (by omega)
  unfold bW meter_part_bounds.f
  have z1 : ¬ wrap64 (1000 + m.f3) = 0 := by rw [e1]; omega
  have z2 : ¬ wrap64 (1000 - m.f3) = 0 := by rw [e2]; omega
  rw [if_neg z1, if_neg z2, if_neg z1, if_neg z2, e1, e2, e3, e4]
  unfold bP loP hiP at *
  generalize m.f2 * (x.b - x.a - inP d x.a x.b) = o at *
  generalize m.f2 * inP d x.a x.b = i at *
  generalize inP d x.a x.b = ii at *
  rw [wrap_id (x := i) (by omega) (by omega), wrap_id (x := o) (by omega) (by omega), wrap_id (x := x.s - o) (by omega) (by omega)]
  cases hk : x.k
  · rw [hk] at l0 l1 l2 b0 b1 b2 b3
    simp only [Bool.false_eq_true, if_false, Option.getD_some] at *
    rw [wrap_id (x := 1000 * i) (by omega) (by omega), tdiv_pos (a := 1000 * i) (by omega), wrap_id (x := 1000 * i / (1000 - m.f3)) (by omega) (by omega)]
    rw [wrap_id (x := 1000 * 0) (by omega) (by omega), wrap_id (x := 1000 * 0 + (1000 + m.f3)) (by omega) (by omega), wrap_id (x := 1000 * 0 + (1000 + m.f3) - 1) (by omega) (by omega), tdiv_pos (by omega)]
    rw [wrap_id (x := (1000 * 0 + (1000 + m.f3) - 1) / (1000 + m.f3))]
    · rw [show 1000 * 0 + (1000 + m.f3) - 1 = 1000 * 0 + m.f3 + 999 by omega]
    · rw [show 1000 * 0 + (1000 + m.f3) - 1 = 1000 * 0 + m.f3 + 999 by omega]; omega
    · rw [show 1000 * 0 + (1000 + m.f3) - 1 = 1000 * 0 + m.f3 + 999 by omega]; omega
  · rw [hk] at l0 l1 l2 b0 b1 b2 b3
    simp only [if_true, Option.getD_some] at *
    generalize mx 0 (x.s - o) = lo at *
    generalize mn x.s i = hi at *
    rw [wrap_id (x := 1000 * hi) (by omega) (by omega), tdiv_pos (a := 1000 * hi) (by omega), wrap_id (x := 1000 * hi / (1000 - m.f3)) (by omega) (by omega)]
    rw [wrap_id (x := 1000 * lo) (by omega) (by omega), wrap_id (x := 1000 * lo + (1000 + m.f3)) (by omega) (by omega), wrap_id (x := 1000 * lo + (1000 + m.f3) - 1) (by omega) (by omega), tdiv_pos (by omega)]
    rw [show 1000 * lo + (1000 + m.f3) - 1 = 1000 * lo + m.f3 + 999 by omega, wrap_id (by omega) (by omega)]

/-! ### Sums -/
def sumP (m : S25) (d : S23) (l : List Part) : Int × Int := ((l.map fun x => (bP m d x).1).sum, (l.map fun x => (bP m d x).2).sum)
theorem sumP_snoc (m : S25) (d : S23) (l : List Part) (x : Part) : sumP m d (l ++ [x]) = ((sumP m d l).1 + (bP m d x).1, (sumP m d l).2 + (bP m d x).2) := by simp [sumP]
theorem sumP_bd {m : S25} {d : S23} (hm : 1 ≤ m.f2 ∧ m.f2 ≤ 10000) (hd : 0 ≤ m.f3 ∧ m.f3 ≤ 100) (l : List Part) (h : ∀ x ∈ l, POk m x) :
    0 ≤ (sumP m d l).1 ∧ (sumP m d l).1 ≤ (sumP m d l).2 ∧ (sumP m d l).2 ≤ 500000000 * l.length := by
  refine snoc_ind (p := fun l => (∀ x ∈ l, POk m x) → 0 ≤ (sumP m d l).1 ∧ (sumP m d l).1 ≤ (sumP m d l).2 ∧ (sumP m d l).2 ≤ 500000000 * l.length) (fun _ => by simp [sumP]) (fun l x ih h => ?_) l h
  obtain ⟨i1, i2, i3⟩ := ih (fun y hy => h y (List.mem_append.2 (.inl hy)))
  have hx := h x (by simp)
  obtain ⟨b0, b1, b2, b3⟩ := bP_bd (d := d) hm hd hx
  obtain ⟨_, l1, _⟩ := loP_bd (d := d) hm.1 hx
  rw [sumP_snoc, List.length_append, List.length_singleton]
  dsimp only
  refine ⟨by omega, by omega, ?_⟩
  push_cast
  omega
theorem sumW_eq {m : S25} {d : S23} (hm : 1 ≤ m.f2 ∧ m.f2 ≤ 10000) (hd : 0 ≤ m.f3 ∧ m.f3 ≤ 100) (hs : 0 ≤ d.f0 ∧ d.f0 < d.f1 ∧ d.f1 ≤ 36525) (l : List Part) (h : ∀ x ∈ l, POk m x) (hl : l.length ≤ 1001) : sumW m d l = sumP m d l := by
  refine snoc_ind (p := fun l => (∀ x ∈ l, POk m x) → l.length ≤ 1001 → sumW m d l = sumP m d l) (fun _ _ => rfl) (fun l x ih h hl => ?_) l h hl
  rw [List.length_append, List.length_singleton] at hl
  have hp : ∀ y ∈ l, POk m y := fun y hy => h y (List.mem_append.2 (.inl hy))
  have hx := h x (by simp)
  obtain ⟨i1, i2, i3⟩ := sumP_bd (d := d) hm hd l hp
  obtain ⟨b0, b1, b2, b3⟩ := bP_bd (d := d) hm hd hx
  obtain ⟨_, l1, _⟩ := loP_bd (d := d) hm.1 hx
  rw [sumW_snoc, sumP_snoc, ih hp (by omega)]
  unfold accW
  rw [bW_eq hm hd hs hx, wrap_id (by omega) (by omega), wrap_id (by omega) (by omega)]
end Go.Proofs.YtknfkibnocfjiaaDoor.P
