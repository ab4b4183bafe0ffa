/- What meter.Valid and meter.Several compute. -/
import Derived.Test.YtknfkibnocfjiaaDoorGBounds
import Derived.Test.YtknfkibnocfjiaaDoorPR2
import Derived.Test.YtknfkibnocfjiaaDoorEvLib
namespace Go.Proofs.YtknfkibnocfjiaaDoor.P
open Go.RowKit Go.Proofs.YtknfkibnocfjiaaDoorW.PrintWords Go.Proofs.YtknfkibnocfjiaaDoor.M
set_option linter.unusedVariables false
set_option linter.unusedSimpArgs false

theorem rd25_get {l : List S25} {i : Nat} (h : i < l.length) : rd_T25 l (i : Int) = l[i] := by
  unfold rd_T25
  rw [Int.toNat_natCast, List.getD_eq_getElem?_getD, List.getElem?_eq_getElem h]
  rfl
theorem wrap_pred {i n : Nat} (h0 : 0 < i) (h : i ≤ n) (hn : n ≤ 9223372036854775807) : wrap64 ((i : Int) - 1) = ((i - 1 : Nat) : Int) := by
  rw [Go.IntWalk.wrap64_in _ (by omega)]; omega
/-- Is the meter at a place valid, and its number above the one ahead of it? -/
def vAt (l : List S25) (i : Nat) : Bool := validM (rd_T25 l (i : Int)) && (i == 0 || decide ((rd_T25 l ((i - 1 : Nat) : Int)).f0 < (rd_T25 l (i : Int)).f0))
def validL (l : List S25) : Bool := decide (l.length ≤ 200) && (List.range l.length).all (vAt l)
theorem valid_loop (l : List S25) (hl : l.length ≤ 9223372036854775807) : ∀ n i : Nat, i + n = l.length → (∀ j : Nat, j < i → vAt l j = true) → Ev (fun k => meter_Valid.l0 k l l (l.length : Int) (i : Int)) (validL l) := by
  intro n
  induction n with
  | zero =>
    intro i hi hok
    refine Ev.step (fun k => by rw [meter_Valid.l0]) ?_
    refine evNeg (by omega) (evEq (Ev.now _) ?_)
    unfold validL
    rw [show (List.range l.length).all (vAt l) = true from List.all_eq_true.2 (fun j hj => hok j (by have := List.mem_range.1 hj; omega)), Bool.and_true]
    by_cases h : l.length ≤ 200
    · rw [decide_eq_true h, decide_eq_true (by omega)]
    · rw [decide_eq_false h, decide_eq_false (by omega)]
  | succ n ih =>
    intro i hi hok
    have hlt : i < l.length := by omega
    have hno : vAt l i = false → validL l = false := fun h => by
      unfold validL
      rw [show (List.range l.length).all (vAt l) = false from List.all_eq_false.2 ⟨i, List.mem_range.2 hlt, by rw [h]; decide⟩, Bool.and_false]
    have hnext : vAt l i = true → ∀ j : Nat, j < i + 1 → vAt l j = true := fun h j hj => by
      rcases Nat.lt_or_ge j i with h' | h'
      · exact hok j h'
      · obtain rfl : j = i := by omega
        exact h
    refine Ev.step (fun k => by rw [meter_Valid.l0]) ?_
    refine evPos (by omega) (evPos (by omega) (evPos (by omega) ?_))
    refine evSome (valid_f (rd_T25 l (i : Int))) ?_
    by_cases hv : validM (rd_T25 l (i : Int)) = true
    · refine evPos hv ?_
      by_cases h0 : i = 0
      · refine evNeg (by omega) ?_
        rw [wrap_succ hlt hl]
        refine ih (i + 1) (by omega) (hnext ?_)
        unfold vAt; rw [hv, h0]; rfl
      · refine evPos (by omega) ?_
        rw [wrap_pred (by omega) (Nat.le_of_lt hlt) hl]
        refine evPos (by omega) (evPos (by omega) ?_)
        by_cases hle : (rd_T25 l (i : Int)).f0 ≤ (rd_T25 l ((i - 1 : Nat) : Int)).f0
        · refine evPos hle (evEq (Ev.now _) (hno ?_).symm)
          unfold vAt
          rw [hv, beq_eq_false_iff_ne.2 h0, decide_eq_false (by omega)]; rfl
        · refine evNeg hle ?_
          rw [wrap_succ hlt hl]
          refine ih (i + 1) (by omega) (hnext ?_)
          unfold vAt
          rw [hv, decide_eq_true (by omega), Bool.or_true]; rfl
    · refine evNeg hv (evEq (Ev.now _) (hno ?_).symm)
      unfold vAt
      rw [Bool.not_eq_true] at hv
      rw [hv, Bool.false_and]
theorem valid_ev (l : List S25) (hl : l.length ≤ 9223372036854775807) : Ev (fun k => meter_Valid.f k l) (validL l) := valid_loop l hl l.length 0 (by omega) (fun j hj => absurd hj (Nat.not_lt_zero j))
theorem meter_Valid_calls (A0 : Option Addr) (c0 : Nat) (l0 : List S25) (w : World) (hr0 : Kd.C k25 w A0 l0.length l0) (hc0 : l0.length ≤ c0) (hl : l0.length ≤ 9223372036854775807) :
    Calls Tryd.prog 15 #[.slice A0 l0.length c0] w fun e w' => e = .returned (.bool (validL l0)) ∧ Below w.heap.size w w' := by
  obtain ⟨k, hk⟩ := (valid_ev l0 hl).rounds
  exact meter_Valid.calls k A0 c0 l0 _ w hr0 hc0 hk

/-- Does the next meter begin ahead of this one's end? -/
def gapBad (l : List S25) (i : Nat) : Bool := decide ((rd_T25 l ((i + 1 : Nat) : Int)).f4.f0 < (rd_T25 l (i : Int)).f4.f1)
/-- The sums over meters, from a sum on. -/
def sevF (r : List S43) (d : S23) (known : Int) : List S25 → Int × Int → (Int × Int) × Int
  | [], s => (s, 0)
  | m :: ms, s => if (boundsL m r d known).2 = 0 then sevF r d known ms (wrap64 (s.1 + (boundsL m r d known).1.1), wrap64 (s.2 + (boundsL m r d known).1.2)) else ((0, 0), (boundsL m r d known).2)
/-- What Several returns. -/
def severalL (l : List S25) (r : List S43) (d : S23) (known : Int) : (Int × Int) × Int :=
  if (validL l && stretchB d.f0 d.f1 && readingsL r && inB known 0 36524) = true then
    if ((List.range (l.length - 1)).any (gapBad l)) = true then ((0, 0), 1) else sevF r d known l (0, 0)
  else ((0, 0), 1)
end Go.Proofs.YtknfkibnocfjiaaDoor.P
