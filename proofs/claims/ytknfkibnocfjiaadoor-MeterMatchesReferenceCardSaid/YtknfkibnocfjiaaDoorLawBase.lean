/- What the laws of this layer share: the contracts of Few, Stretch, Readings of the reference implementation. -/
import Derived.Test.YtknfkibnocfjiaaDoorGHead
import Derived.Test.YtknfkibnocfjiaaDoorMPure2
import Derived.Test.YtknfkibnocfjiaaDoorOpenSM
import Derived.Test.YtknfkibnocfjiaaDoorPR1
namespace Go.Proofs.YtknfkibnocfjiaaDoor.P
open Go.RowKit Go.Proofs.YtknfkibnocfjiaaDoorW.PrintWords Go.Proofs.YtknfkibnocfjiaaDoorW.PrintLast Go.Proofs.YtknfkibnocfjiaaDoorW.PrintMore Go.Proofs.YtknfkibnocfjiaaDoor.M
set_option linter.unusedVariables false
set_option linter.unusedSimpArgs false

def fewB (a : List S25) (b : List S43) : Bool := decide (a.length ≤ 20) && decide (b.length ≤ 60)
theorem few_f (a : List S25) (b : List S43) : cohousingref27_Few.f a b = some (fewB a b) := by
  unfold cohousingref27_Few.f fewB
  by_cases h : a.length ≤ 20
  · rw [if_pos (by omega), decide_eq_true h, Bool.true_and]
    congr 1
    exact decide_eq_decide.2 (by omega)
  · rw [if_neg (by omega), decide_eq_false h, Bool.false_and]
theorem rstretch_f (a b : Int) : cohousingref27_Stretch.f a b = some (stretchB a b) := by
  unfold cohousingref27_Stretch.f stretchB
  by_cases h : 0 ≤ a
  · rw [if_pos h, decide_eq_true h, Bool.true_and]
    by_cases h2 : a < b
    · rw [if_pos h2, decide_eq_true h2, Bool.true_and]
    · rw [if_neg h2, decide_eq_false h2, Bool.false_and]
  · rw [if_neg h, decide_eq_false h, Bool.false_and, Bool.false_and]
theorem rday_f (a : Int) : cohousingref27_Day.f a = some (inB a 0 36524) := by
  unfold cohousingref27_Day.f inB
  by_cases h : 0 ≤ a
  · rw [if_pos h, decide_eq_true h, Bool.true_and]
  · rw [if_neg h, decide_eq_false h, Bool.false_and]
theorem rreadings_loop (l : List S43) (hl : l.length ≤ 1000) : ∀ n i : Nat, i + n = l.length → (∀ j : Nat, j < i → readingOk (rd_T43 l (j : Int)) = true) → Ev (fun k => cohousingref27_Readings.l0 k l (i : Int)) (readingsL l) := by
  intro n
  induction n with
  | zero =>
    intro i hi hok
    refine Ev.step (fun k => by rw [cohousingref27_Readings.l0]) ?_
    refine evNeg (by omega) (evEq (Ev.now _) ?_)
    unfold readingsL
    rw [decide_eq_true hl, Bool.true_and, all43_of (p := readingOk) (fun j hj => hok j (by omega))]
  | succ n ih =>
    intro i hi hok
    have hlt : i < l.length := by omega
    have hno : readingOk (rd_T43 l (i : Int)) = false → readingsL l = false := fun h => by
      unfold readingsL
      rw [all43_not hlt h, Bool.and_false]
    refine Ev.step (fun k => by rw [cohousingref27_Readings.l0]) ?_
    refine evPos (by omega) (evPos (by omega) ?_)
    generalize hx : rd_T43 l (i : Int) = x at *
    by_cases h1 : x.f0 < 1
    · refine evPos h1 (evEq (Ev.now _) (hno ?_).symm)
      unfold readingOk inB; rw [decide_eq_false (by omega)]; rfl
    · refine evNeg h1 ?_
      by_cases h2 : x.f0 > 1000
      · refine evPos h2 (evEq (Ev.now _) (hno ?_).symm)
        unfold readingOk inB; rw [decide_eq_true (show (1 : Int) ≤ x.f0 by omega), decide_eq_false (by omega)]; rfl
      · refine evNeg h2 ?_
        refine evSome (rday_f _) ?_
        by_cases h3 : inB x.f1 0 36524 = true
        · refine evPos h3 ?_
          refine evSome (rday_f _) ?_
          by_cases h4 : inB x.f3 0 36524 = true
          · refine evPos h4 ?_
            by_cases h5 : x.f2 < 0
            · refine evPos h5 (evEq (Ev.now _) (hno ?_).symm)
              unfold readingOk; rw [show inB x.f2 0 999999 = false by unfold inB; rw [decide_eq_false (by omega)]; rfl, Bool.and_false]
            · refine evNeg h5 ?_
              by_cases h6 : x.f2 > 999999
              · refine evPos h6 (evEq (Ev.now _) (hno ?_).symm)
                unfold readingOk; rw [show inB x.f2 0 999999 = false by unfold inB; rw [decide_eq_false (show ¬ x.f2 ≤ 999999 by omega), Bool.and_false], Bool.and_false]
              · refine evNeg h6 ?_
                rw [wrap_succ hlt (by omega)]
                refine ih (i + 1) (by omega) (fun j hj => ?_)
                rcases Nat.lt_or_ge j i with h | h
                · exact hok j h
                · obtain rfl : j = i := by omega
                  rw [hx]
                  unfold readingOk
                  rw [h3, h4, show inB x.f2 0 999999 = true by unfold inB; rw [decide_eq_true (by omega), decide_eq_true (by omega)]; rfl, show inB x.f0 1 1000 = true by unfold inB; rw [decide_eq_true (by omega), decide_eq_true (by omega)]; rfl]
                  rfl
          · refine evNeg h4 (evEq (Ev.now _) (hno ?_).symm)
            rw [Bool.not_eq_true] at h4
            unfold readingOk; rw [h4, Bool.and_false, Bool.false_and]
        · refine evNeg h3 (evEq (Ev.now _) (hno ?_).symm)
          rw [Bool.not_eq_true] at h3
          unfold readingOk; rw [h3, Bool.and_false, Bool.false_and, Bool.false_and]
theorem rreadings_ev (l : List S43) : Ev (fun k => cohousingref27_Readings.f k l) (readingsL l) := by
  by_cases h : l.length ≤ 1000
  · exact Ev.congr (fun k => by unfold cohousingref27_Readings.f; rw [if_neg (by omega)]; rfl) (rreadings_loop l h l.length 0 (by omega) (fun j hj => absurd hj (Nat.not_lt_zero j)))
  · refine Ev.congr (fun k => by unfold cohousingref27_Readings.f; rw [if_pos (by omega)]) (evEq (Ev.now _) ?_)
    unfold readingsL; rw [decide_eq_false h, Bool.false_and]
theorem few_calls (A0 : Option Addr) (c0 : Nat) (l0 : List S25) (A1 : Option Addr) (c1 : Nat) (l1 : List S43) (b : Bool) (hb : fewB l0 l1 = b) (w : World) (hr0 : Kd.C k25 w A0 l0.length l0) (hc0 : l0.length ≤ c0) (hr1 : Kd.C k43 w A1 l1.length l1) (hc1 : l1.length ≤ c1) :
    Calls Tryd.prog 12 #[.slice A0 l0.length c0, .slice A1 l1.length c1] w fun e w' => e = .returned (.bool b) ∧ Below w.heap.size w w' :=
  (cohousingref27_Few.calls A0 c0 l0 A1 c1 l1 b w hr0 hc0 hr1 hc1 (by rw [few_f, hb])).mono fun e w' h => ⟨h.1, h.2.below⟩
/-- Few, where no meters are given. -/
theorem few0_calls (A1 : Option Addr) (c1 : Nat) (l1 : List S43) (b : Bool) (hb : decide (l1.length ≤ 60) = b) (w : World) (hr1 : Kd.C k43 w A1 l1.length l1) (hc1 : l1.length ≤ c1) :
    Calls Tryd.prog 12 #[.slice none 0 0, .slice A1 l1.length c1] w fun e w' => e = .returned (.bool b) ∧ Below w.heap.size w w' :=
  few_calls none 0 [] A1 c1 l1 b (by unfold fewB; rw [hb]; rfl) w (Kd.C_nil _ _) (Nat.le_refl _) hr1 hc1
theorem rstretch_calls (a b : Int) (r : Bool) (hr : stretchB a b = r) (w : World) : Calls Tryd.prog 23 #[.agg #[.int .i64 a, .int .i64 b]] w fun e w' => e = .returned (.bool r) ∧ Below w.heap.size w w' :=
  (cohousingref27_Stretch.calls a b r w (by rw [rstretch_f, hr])).mono fun e w' h => by first | exact h | exact ⟨h.1, h.2.below⟩
theorem rreadings_calls (A1 : Option Addr) (c1 : Nat) (l1 : List S43) (b : Bool) (hb : readingsL l1 = b) (w : World) (hr1 : Kd.C k43 w A1 l1.length l1) (hc1 : l1.length ≤ c1) :
    Calls Tryd.prog 25 #[.slice A1 l1.length c1] w fun e w' => e = .returned (.bool b) ∧ Below w.heap.size w w' := by
  obtain ⟨k, hk⟩ := (rreadings_ev l1).rounds
  rw [hb] at hk
  exact (cohousingref27_Readings.calls k A1 c1 l1 b w hr1 hc1 hk).mono fun e w' h => by first | exact h | exact ⟨h.1, h.2.below⟩
end Go.Proofs.YtknfkibnocfjiaaDoor.P
