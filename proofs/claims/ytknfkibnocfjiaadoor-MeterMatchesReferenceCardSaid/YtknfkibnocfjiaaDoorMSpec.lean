/- What the functions of package meter compute, as plain functions on readings and meters. -/
import Derived.Test.YtknfkibnocfjiaaDoorPR1
import Derived.Test.YtknfkibnocfjiaaDoorMapKeysI
namespace Go.Proofs.YtknfkibnocfjiaaDoor.P
open Go.RowKit Go.Proofs.YtknfkibnocfjiaaDoorW.PrintWords Go.Proofs.YtknfkibnocfjiaaDoor.M
set_option linter.unusedVariables false

def inB (n lo hi : Int) : Bool := decide (lo ≤ n) && decide (n ≤ hi)
/-- Is a reading well-formed? (Meter, Day, Value, Known) -/
def readingOk (r : S43) : Bool := inB r.f0 1 1000 && inB r.f1 0 36524 && inB r.f3 0 36524 && inB r.f2 0 999999
def readingsL (l : List S43) : Bool := decide (l.length ≤ 1000) && l.all readingOk
theorem rd43_get {l : List S43} {i : Nat} (h : i < l.length) : rd_T43 l (i : Int) = l[i] := by
  unfold rd_T43
  rw [Int.toNat_natCast, List.getD_eq_getElem?_getD, List.getElem?_eq_getElem h]
  rfl
theorem all43_of {l : List S43} {p : S43 → Bool} (h : ∀ j : Nat, j < l.length → p (rd_T43 l (j : Int)) = true) : l.all p = true := by
  rw [List.all_eq_true]
  intro x hx
  obtain ⟨j, hj, rfl⟩ := List.getElem_of_mem hx
  rw [← rd43_get hj]; exact h j hj
theorem all43_not {l : List S43} {p : S43 → Bool} {j : Nat} (hj : j < l.length) (h : p (rd_T43 l (j : Int)) = false) : l.all p = false := by
  rw [List.all_eq_false]
  exact ⟨l[j], List.getElem_mem hj, by rw [← rd43_get hj, h]; decide⟩
theorem take43_snoc {l : List S43} {i : Nat} (h : i < l.length) : l.take (i + 1) = l.take i ++ [rd_T43 l (i : Int)] := by
  rw [rd43_get h, List.take_succ_eq_append_getElem h]

/-- Does a reading count: of the meter, known, on one of its days? -/
def countsB (m : S25) (known : Int) (r : S43) : Bool := r.f0 == m.f0 && decide (r.f3 ≤ known) && decide (m.f4.f0 ≤ r.f1) && decide (r.f1 ≤ m.f4.f1)
/-- The reading that counts for each day. -/
def colStep (m : S25) (known : Int) (f : Int → Option S43) (r : S43) : Int → Option S43 :=
  if countsB m known r = true ∧ (∀ old, f r.f1 = some old → old.f3 ≤ r.f3) then fun d => if d = r.f1 then some r else f d else f
def colF (m : S25) (known : Int) (l : List S43) : Int → Option S43 := l.foldl (colStep m known) fun _ => none
/-- The days that have a reading, in order. -/
def dayStep (m : S25) (known : Int) (ds : List Int) (r : S43) : List Int := if countsB m known r = true then putI ds r.f1 else ds
def daysL (m : S25) (known : Int) (l : List S43) : List Int := l.foldl (dayStep m known) []
/-- The readings that count, by rising days. -/
def colL (m : S25) (known : Int) (l : List S43) : List S43 := (daysL m known l).map fun d => (colF m known l d).getD z43
theorem colF_snoc (m : S25) (known : Int) (l : List S43) (r : S43) : colF m known (l ++ [r]) = colStep m known (colF m known l) r := by
  unfold colF; rw [List.foldl_append]; rfl
theorem daysL_snoc (m : S25) (known : Int) (l : List S43) (r : S43) : daysL m known (l ++ [r]) = dayStep m known (daysL m known l) r := by
  unfold daysL; rw [List.foldl_append]; rfl
theorem snoc_ind {α : Type} {p : List α → Prop} (h0 : p []) (h1 : ∀ l a, p l → p (l ++ [a])) (l : List α) : p l := by
  have h : ∀ m : List α, p m.reverse := by
    intro m
    induction m with
    | nil => exact h0
    | cons a m ih => rw [List.reverse_cons]; exact h1 _ _ ih
  have := h l.reverse
  rwa [List.reverse_reverse] at this
theorem ris_daysL (m : S25) (known : Int) (l : List S43) : RisI (daysL m known l) := by
  refine snoc_ind (p := fun l => RisI (daysL m known l)) List.Pairwise.nil (fun l r ih => ?_) l
  show RisI (daysL m known (l ++ [r]))
  rw [daysL_snoc]; unfold dayStep
  split
  · exact ris_putI _ _ ih
  · exact ih
theorem mem_daysL (m : S25) (known : Int) (l : List S43) (d : Int) : d ∈ daysL m known l ↔ (colF m known l d).isSome = true := by
  refine snoc_ind (p := fun l => d ∈ daysL m known l ↔ (colF m known l d).isSome = true) (by simp [daysL, colF]) (fun l r ih => ?_) l
  show d ∈ daysL m known (l ++ [r]) ↔ (colF m known (l ++ [r]) d).isSome = true
  rw [daysL_snoc, colF_snoc]; unfold dayStep colStep
  by_cases hc : countsB m known r = true
  · rw [if_pos hc, mem_putI, ih]
    by_cases ho : ∀ old, colF m known l r.f1 = some old → old.f3 ≤ r.f3
    · rw [if_pos ⟨hc, ho⟩]
      by_cases hd : d = r.f1
      · simp [hd]
      · simp [hd]
    · rw [if_neg (fun h => ho h.2)]
      constructor
      · rintro (rfl | h)
        · cases hx : colF m known l r.f1 with
          | none => exact absurd (fun old h => by rw [hx] at h; cases h) ho
          | some y => rfl
        · exact h
      · exact .inr
  · rw [if_neg hc, if_neg (fun h => hc h.1), ih]
end Go.Proofs.YtknfkibnocfjiaaDoor.P
