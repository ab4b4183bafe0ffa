/- What part and plus of the reference implementation compute, and its sum in its own order: plain facts, no program. -/
import Derived.Test.YtknfkibnocfjiaaDoorMPure2
import Derived.Test.YtknfkibnocfjiaaDoorPR4
namespace Go.Proofs.YtknfkibnocfjiaaDoor.P
open Go.RowKit Go.Proofs.YtknfkibnocfjiaaDoorW.PrintWords Go.Proofs.YtknfkibnocfjiaaDoorW.PrintLast Go.Proofs.YtknfkibnocfjiaaDoorW.PrintMore Go.Proofs.YtknfkibnocfjiaaDoor.M
set_option linter.unusedVariables false
set_option linter.unusedSimpArgs false
theorem rpart_f {m : S25} {d : S23} {x : Part} (hm : 1 ≤ m.f2 ∧ m.f2 ≤ 10000) (hd : 0 ≤ m.f3 ∧ m.f3 ≤ 100) (hs : 0 ≤ d.f0 ∧ d.f0 < d.f1 ∧ d.f1 ≤ 36525) (hx : POk m x) (v : Int) (hv : v = if x.k = true then x.s else -1) :
    cohousingref27_part.f m.f0 m.f1 m.f2 m.f3 m.f4.f0 m.f4.f1 x.a x.b d.f0 d.f1 v = some ((bP m d x).1, (bP m d x).2) := by
  obtain ⟨l0, l1, l2⟩ := loP_bd (d := d) hm.1 hx
  obtain ⟨b0, b1, b2, b3⟩ := bP_bd (d := d) hm hd hx
  obtain ⟨h1, h2, h3, h4, h5, h6⟩ := hx
  obtain ⟨hi0, hi1⟩ := inP_bd (d := d) h2
  have e1 : wrap64 (1000 + m.f3) = 1000 + m.f3 := wrap_id (by omega) (by omega)
  have e2 : wrap64 (1000 - m.f3) = 1000 - m.f3 := wrap_id (by omega) (by omega)
  have e3 : mx 0 (wrap64 (mn x.b d.f1 - mx x.a d.f0)) = inP d x.a x.b := by
    unfold inP
    rw [wrap_id]
    · unfold mx mn; split <;> split <;> omega
    · unfold mx mn; split <;> split <;> omega
  have e4 : wrap64 (wrap64 (x.b - x.a) - inP d x.a x.b) = x.b - x.a - inP d x.a x.b := by
    rw [wrap_id (x := x.b - x.a) (by omega) (by omega), wrap_id (by omega) (by omega)]
  have hM : m.f2 * inP d x.a x.b ≤ 10000 * 36525 := Int.le_trans (mul_mono (by omega) (show inP d x.a x.b ≤ 36525 by omega)) (by have := Int.mul_le_mul_of_nonneg_right hm.2 (show (0 : Int) ≤ 36525 by omega); omega)
  have hO : m.f2 * (x.b - x.a - inP d x.a x.b) ≤ 10000 * 36525 := Int.le_trans (mul_mono (by omega) (show x.b - x.a - inP d x.a x.b ≤ 36525 by omega)) (by have := Int.mul_le_mul_of_nonneg_right hm.2 (show (0 : Int) ≤ 36525 by omega); omega)
  have hM0 : 0 ≤ m.f2 * inP d x.a x.b := Int.mul_nonneg (by omega) hi0
  have hO0 : 0 ≤ m.f2 * (x.b - x.a - inP d x.a x.b) := Int.mul_nonneg (by omega) (by omega)
  have hmeet : cohousingref27_meet.f x.a x.b d.f0 d.f1 = some (inP d x.a x.b) := by unfold cohousingref27_meet.f; rw [e3]
  unfold cohousingref27_part.f
  rw [hmeet, Option.bind_some]
  have z1 : ¬ wrap64 (1000 + m.f3) = 0 := by rw [e1]; omega
  have z2 : ¬ wrap64 (1000 - m.f3) = 0 := by rw [e2]; omega
  rw [if_neg z1, if_neg z2, if_neg z1, if_neg z2, e1, e2, e4]
  unfold bP loP hiP at *
  generalize m.f2 * (x.b - x.a - inP d x.a x.b) = o at *
  generalize m.f2 * inP d x.a x.b = i at *
  generalize inP d x.a x.b = ii at *
  rw [wrap_id (x := i) (by omega) (by omega), wrap_id (x := o) (by omega) (by omega)]
  cases hk : x.k
  · rw [hk] at l0 l1 l2 b0 b1 b2 b3 hv
    simp only [Bool.false_eq_true, if_false] at *
    subst hv
    rw [if_neg (by omega)]
    rw [wrap_id (x := 1000 * i) (by omega) (by omega), tdiv_pos (a := 1000 * i) (by omega), wrap_id (x := 1000 * i / (1000 - m.f3)) (by omega) (by omega)]
    rw [wrap_id (x := 1000 * 0) (by omega) (by omega), wrap_id (x := 1000 * 0 + 999) (by omega) (by omega), wrap_id (x := 1000 * 0 + 999 + m.f3) (by omega) (by omega), tdiv_pos (by omega)]
    rw [show 1000 * 0 + 999 + m.f3 = 1000 * 0 + m.f3 + 999 by omega, wrap_id (x := (1000 * 0 + m.f3 + 999) / (1000 + m.f3)) (by omega) (by omega)]
  · rw [hk] at l0 l1 l2 b0 b1 b2 b3 hv
    simp only [if_true] at *
    subst hv
    rw [if_pos (by omega), wrap_id (x := x.s - o) (by omega) (by omega)]
    generalize mx 0 (x.s - o) = lo at *
    generalize mn x.s i = hi at *
    rw [wrap_id (x := 1000 * hi) (by omega) (by omega), tdiv_pos (a := 1000 * hi) (by omega), wrap_id (x := 1000 * hi / (1000 - m.f3)) (by omega) (by omega)]
    rw [wrap_id (x := 1000 * lo) (by omega) (by omega), wrap_id (x := 1000 * lo + 999) (by omega) (by omega), wrap_id (x := 1000 * lo + 999 + m.f3) (by omega) (by omega), tdiv_pos (by omega)]
    rw [show 1000 * lo + 999 + m.f3 = 1000 * lo + m.f3 + 999 by omega, wrap_id (x := (1000 * lo + m.f3 + 999) / (1000 + m.f3)) (by omega) (by omega)]
theorem rpart_calls {m : S25} {d : S23} {x : Part} (hm : 1 ≤ m.f2 ∧ m.f2 ≤ 10000) (hd : 0 ≤ m.f3 ∧ m.f3 ≤ 100) (hs : 0 ≤ d.f0 ∧ d.f0 < d.f1 ∧ d.f1 ≤ 36525) (hx : POk m x) (v : Int) (hv : v = if x.k = true then x.s else -1) (a b : Int) (ha : x.a = a) (hb : x.b = b) (W : World) :
    Calls Tryd.prog 39 #[.agg #[.int .i64 m.f0, .int .i64 m.f1, .int .i64 m.f2, .int .i64 m.f3, .int .i64 m.f4.f0, .int .i64 m.f4.f1], .agg #[.int .i64 a, .int .i64 b], .agg #[.int .i64 d.f0, .int .i64 d.f1], .int .i64 v] W fun e w' => e = .returned (.agg #[.int .i64 (bP m d x).1, .int .i64 (bP m d x).2]) ∧ Below W.heap.size W w' := by
  subst ha hb
  exact (cohousingref27_part.calls m.f0 m.f1 m.f2 m.f3 m.f4.f0 m.f4.f1 x.a x.b d.f0 d.f1 v _ _ W (rpart_f hm hd hs hx v hv)).mono fun e w' h => by first | exact h | exact ⟨h.1, h.2.below⟩
theorem rplus_calls (a b c e : Int) (h1 : 0 ≤ a ∧ a ≤ 1000000000000) (h2 : 0 ≤ b ∧ b ≤ 1000000000000) (h3 : 0 ≤ c ∧ c ≤ 1000000000000) (h4 : 0 ≤ e ∧ e ≤ 1000000000000) (r s : Int) (hr : a + c = r) (hs : b + e = s) (W : World) :
    Calls Tryd.prog 40 #[.agg #[.int .i64 a, .int .i64 b], .agg #[.int .i64 c, .int .i64 e]] W fun o w' => o = .returned (.agg #[.int .i64 r, .int .i64 s]) ∧ Below W.heap.size W w' := by
  subst hr hs
  exact (cohousingref27_plus.calls a b c e _ _ W (by unfold cohousingref27_plus.f; rw [wrap_id (by omega) (by omega), wrap_id (by omega) (by omega)])).mono fun e w' h => by first | exact h | exact ⟨h.1, h.2.below⟩
/-- The sum in the order of the reference: the last part behind the first one. -/
def midP (m : S25) (c : List S43) (n : Nat) : List Part := uptoP m c n ++ [⟨fromF m c c.length, m.f4.f1, 0, false⟩]
def sR (m : S25) (d : S23) (c : List S43) (n : Nat) : Int × Int := sumP m d (midP m c n)
theorem sR_succ (m : S25) (d : S23) (c : List S43) (n : Nat) : sR m d c (n + 1) = ((sR m d c n).1 + (bP m d (partAt m c n)).1, (sR m d c n).2 + (bP m d (partAt m c n)).2) := by
  unfold sR midP
  rw [uptoP_succ, sumP_snoc, sumP_snoc, sumP_snoc]
  refine Prod.ext ?_ ?_ <;> dsimp only <;> omega
theorem sR_zero (m : S25) (d : S23) (c : List S43) : sR m d c 0 = bP m d ⟨fromF m c c.length, m.f4.f1, 0, false⟩ := by
  unfold sR midP uptoP
  simp [sumP]
theorem sR_end (m : S25) (d : S23) (c : List S43) : sR m d c c.length = sumP m d (partsL m c) := rfl
theorem midP_ok {m : S25} {known : Int} {c : List S43} (h : CleanOk m known c) {n : Nat} (hn : n ≤ c.length) : ∀ x ∈ midP m c n, POk m x := by
  intro x hx
  refine partsL_ok h x ?_
  unfold midP at hx
  unfold partsL
  rcases List.mem_append.1 hx with hx | hx
  · refine List.mem_append.2 (.inl ?_)
    unfold uptoP at hx ⊢
    obtain ⟨i, hi, rfl⟩ := List.mem_map.1 hx
    exact List.mem_map.2 ⟨i, List.mem_range.2 (by have := List.mem_range.1 hi; omega), rfl⟩
  · exact List.mem_append.2 (.inr hx)
theorem sR_bd {m : S25} {d : S23} {known : Int} {c : List S43} (h : CleanOk m known c) {n : Nat} (hn : n ≤ c.length) : 0 ≤ (sR m d c n).1 ∧ (sR m d c n).1 ≤ (sR m d c n).2 ∧ (sR m d c n).2 ≤ 500500000000 := by
  obtain ⟨hm0, hm1, hm2, hm3, hm4, hm5, hm6⟩ := validM_bounds h.valid
  have hb := sumP_bd (d := d) hm2 hm3 (midP m c n) (midP_ok h hn)
  have hl : (midP m c n).length = n + 1 := by unfold midP; rw [List.length_append, uptoP_length, List.length_singleton]
  have := h.few
  unfold sR
  rw [hl] at hb
  push_cast at hb
  omega
end Go.Proofs.YtknfkibnocfjiaaDoor.P
