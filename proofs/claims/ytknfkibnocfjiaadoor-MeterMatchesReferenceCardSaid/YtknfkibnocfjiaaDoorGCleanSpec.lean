/- What meter.Clean computes. -/
import Derived.Test.YtknfkibnocfjiaaDoorGShown
import Derived.Test.YtknfkibnocfjiaaDoorPR1
namespace Go.Proofs.YtknfkibnocfjiaaDoor.P
open Go.RowKit Go.Proofs.YtknfkibnocfjiaaDoorW.PrintWords Go.Proofs.YtknfkibnocfjiaaDoor.M
set_option linter.unusedVariables false

def stretchB (a b : Int) : Bool := decide (0 ≤ a) && decide (a < b) && decide (b ≤ 36525)
def validM (m : S25) : Bool := inB m.f0 1 1000 && inB m.f1 3 6 && inB m.f2 1 10000 && inB m.f3 0 100 && stretchB m.f4.f0 m.f4.f1
theorem stretch_f (a b : Int) : meter_stretch.f a b = some (stretchB a b) := by
  unfold meter_stretch.f stretchB
  by_cases h : 0 ≤ a
  · rw [if_pos h, decide_eq_true h, Bool.true_and]
    by_cases h2 : a < b
    · rw [if_pos h2, decide_eq_true h2, Bool.true_and]
    · rw [if_neg h2, decide_eq_false h2, Bool.false_and]
  · rw [if_neg h, decide_eq_false h, Bool.false_and, Bool.false_and]
theorem valid_f (m : S25) : meter_valid.f m.f0 m.f1 m.f2 m.f3 m.f4.f0 m.f4.f1 = some (validM m) := by
  unfold meter_valid.f validM
  rw [within_f, within_f, within_f, within_f, stretch_f]
  simp only [Option.bind_some]
  cases inB m.f0 1 1000 <;> cases inB m.f1 3 6 <;> cases inB m.f2 1 10000 <;> cases inB m.f3 0 100 <;> rfl
/-- The most that a meter can grow from one of its readings to the next. -/
def gapF (m : S25) (c : List S43) (i : Nat) : Int := m.f2 * ((rd_T43 c ((i : Int) + 1)).f1 - (rd_T43 c (i : Int)).f1)
def rangeBad (m : S25) (c : List S43) (i : Nat) : Bool := decide (pow10 m.f1 ≤ gapF m c i)
def flowBad (m : S25) (c : List S43) (i : Nat) : Bool := decide (gapF m c i < shownF (pow10 m.f1) (rd_T43 c (i : Int)).f2 (rd_T43 c ((i : Int) + 1)).f2)
/-- What Clean returns. -/
def cleanL (m : S25) (l : List S43) (known : Int) : List S43 × Int :=
  if (validM m && readingsL l && inB known 0 36524) = true then
    if ((colL m known l).any fun r => decide (pow10 m.f1 ≤ r.f2)) = true then ([], 1)
    else if ((List.range ((colL m known l).length - 1)).any (rangeBad m (colL m known l))) = true then ([], 3)
    else if ((List.range ((colL m known l).length - 1)).any (flowBad m (colL m known l))) = true then ([], 30)
    else (colL m known l, 0)
  else ([], 1)
theorem validM_bounds {m : S25} (h : validM m = true) : (1 ≤ m.f0 ∧ m.f0 ≤ 1000) ∧ (3 ≤ m.f1 ∧ m.f1 ≤ 6) ∧ (1 ≤ m.f2 ∧ m.f2 ≤ 10000) ∧ (0 ≤ m.f3 ∧ m.f3 ≤ 100) ∧ 0 ≤ m.f4.f0 ∧ m.f4.f0 < m.f4.f1 ∧ m.f4.f1 ≤ 36525 := by
  unfold validM inB stretchB at h
  simp only [Bool.and_eq_true, decide_eq_true_eq] at h
  obtain ⟨⟨⟨⟨⟨h1, h2⟩, h3, h4⟩, h5, h6⟩, h7, h8⟩, ⟨h9, h10⟩, h11⟩ := h
  exact ⟨⟨h1, h2⟩, ⟨h3, h4⟩, ⟨h5, h6⟩, ⟨h7, h8⟩, h9, h10, h11⟩
theorem mem_colL {m : S25} {known : Int} {l : List S43} {x : S43} (h : x ∈ colL m known l) : x ∈ l ∧ countsB m known x = true := by
  unfold colL at h
  obtain ⟨d, hd, rfl⟩ := List.mem_map.1 h
  obtain ⟨y, hy⟩ := Option.isSome_iff_exists.1 ((mem_daysL m known l d).1 hd)
  obtain ⟨h1, _, h3⟩ := colF_spec m known l d y hy
  rw [hy]; exact ⟨h1, h3⟩
theorem readingOk_bounds {r : S43} (h : readingOk r = true) : (1 ≤ r.f0 ∧ r.f0 ≤ 1000) ∧ (0 ≤ r.f1 ∧ r.f1 ≤ 36524) ∧ (0 ≤ r.f3 ∧ r.f3 ≤ 36524) ∧ (0 ≤ r.f2 ∧ r.f2 ≤ 999999) := by
  unfold readingOk inB at h
  simp only [Bool.and_eq_true, decide_eq_true_eq] at h
  exact ⟨h.1.1.1, h.1.1.2, h.1.2, h.2⟩
theorem len_colL (m : S25) (known : Int) (l : List S43) : (colL m known l).length ≤ l.length := by
  unfold colL; rw [List.length_map]; exact len_daysL m known l
end Go.Proofs.YtknfkibnocfjiaaDoor.P
