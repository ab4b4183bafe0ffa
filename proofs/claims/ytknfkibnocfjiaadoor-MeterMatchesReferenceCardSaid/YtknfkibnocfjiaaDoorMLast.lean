/- Plain facts on how the reference implementation picks the readings that count: day by day, the best one. -/
import Derived.Test.YtknfkibnocfjiaaDoorMPure3
namespace Go.Proofs.YtknfkibnocfjiaaDoor.P
open Go.RowKit Go.Proofs.YtknfkibnocfjiaaDoorW.PrintWords Go.Proofs.YtknfkibnocfjiaaDoorW.PrintMore Go.Proofs.YtknfkibnocfjiaaDoor.M
set_option linter.unusedVariables false
set_option linter.unusedSimpArgs false
/-- Does a reading take the place of the best one so far? -/
def BetterR (b : Option S43) (r : S43) : Prop := ∀ y, b = some y → r.f1 < y.f1 ∨ r.f1 = y.f1 ∧ y.f3 ≤ r.f3
open Classical in
noncomputable def bestStep (m : S25) (known from_ : Int) (b : Option S43) (r : S43) : Option S43 := if countsB m known r = true ∧ from_ ≤ r.f1 ∧ BetterR b r then some r else b
noncomputable def bestF (m : S25) (known from_ : Int) (l : List S43) : Option S43 := l.foldl (bestStep m known from_) none
theorem bestF_snoc (m : S25) (known from_ : Int) (l : List S43) (r : S43) : bestF m known from_ (l ++ [r]) = bestStep m known from_ (bestF m known from_ l) r := by unfold bestF; rw [List.foldl_append]; rfl
theorem best_none {m : S25} {known from_ : Int} {l : List S43} : bestF m known from_ l = none → ∀ r ∈ l, countsB m known r = true → r.f1 < from_ := by
  refine snoc_ind (p := fun l => bestF m known from_ l = none → ∀ r ∈ l, countsB m known r = true → r.f1 < from_) (fun _ r h => by simp at h) (fun l x ih h r hr hc => ?_) l
  rw [bestF_snoc] at h
  unfold bestStep at h
  split at h
  · cases h
  · rename_i hx
    rcases List.mem_append.1 hr with hr | hr
    · exact ih h r hr hc
    · obtain rfl : r = x := by simpa using hr
      refine Classical.byContradiction fun hlt => hx ⟨hc, by omega, fun y hy => ?_⟩
      rw [h] at hy; cases hy
theorem best_some {m : S25} {known from_ : Int} {l : List S43} : ∀ b, bestF m known from_ l = some b → countsB m known b = true ∧ from_ ≤ b.f1 ∧ (∀ r ∈ l, countsB m known r = true → from_ ≤ r.f1 → b.f1 ≤ r.f1) ∧ colF m known l b.f1 = some b := by
  refine snoc_ind (p := fun l => ∀ b, bestF m known from_ l = some b → countsB m known b = true ∧ from_ ≤ b.f1 ∧ (∀ r ∈ l, countsB m known r = true → from_ ≤ r.f1 → b.f1 ≤ r.f1) ∧ colF m known l b.f1 = some b) (fun b h => by simp [bestF] at h) (fun l x ih b h => ?_) l
  rw [bestF_snoc] at h
  unfold bestStep at h
  rw [colF_snoc]
  unfold colStep
  by_cases hx : countsB m known x = true ∧ from_ ≤ x.f1 ∧ BetterR (bestF m known from_ l) x
  · rw [if_pos hx] at h
    cases h
    obtain ⟨hc, hf, hb⟩ := hx
    have hmin : ∀ r ∈ l, countsB m known r = true → from_ ≤ r.f1 → x.f1 ≤ r.f1 := by
      intro r hr hrc hrf
      cases hbf : bestF m known from_ l with
      | none => have := best_none hbf r hr hrc; omega
      | some y =>
        obtain ⟨_, _, h3, _⟩ := ih y hbf
        have := h3 r hr hrc hrf
        rcases hb y hbf with h1 | h1 <;> omega
    refine ⟨hc, hf, fun r hr hrc hrf => ?_, ?_⟩
    · rcases List.mem_append.1 hr with hr | hr
      · exact hmin r hr hrc hrf
      · obtain rfl : r = x := by simpa using hr
        exact Int.le_refl _
    · rw [if_pos]
      · simp
      · refine ⟨hc, fun old ho => ?_⟩
        obtain ⟨g1, g2, g3⟩ := colF_spec m known l x.f1 old ho
        cases hbf : bestF m known from_ l with
        | none => have := best_none hbf old g1 g3; omega
        | some y =>
          obtain ⟨_, h2, h3, h4⟩ := ih y hbf
          have h5 := h3 old g1 g3 (by omega)
          rcases hb y hbf with h1 | h1
          · omega
          · rw [← h1.1, ho] at h4
            cases h4
            exact h1.2
  · rw [if_neg hx] at h
    obtain ⟨h1, h2, h3, h4⟩ := ih b h
    refine ⟨h1, h2, fun r hr hrc hrf => ?_, ?_⟩
    · rcases List.mem_append.1 hr with hr | hr
      · exact h3 r hr hrc hrf
      · obtain rfl : r = x := by simpa using hr
        refine Classical.byContradiction fun hlt => hx ⟨hrc, hrf, fun y hy => ?_⟩
        rw [h] at hy; cases hy
        exact .inl (by omega)
    · split
      · rename_i hup
        show (if b.f1 = x.f1 then some x else colF m known l b.f1) = some b
        by_cases e : b.f1 = x.f1
        · exfalso
          refine hx ⟨hup.1, by omega, fun y hy => ?_⟩
          rw [h] at hy; cases hy
          exact .inr ⟨e.symm, hup.2 b (by rw [← e]; exact h4)⟩
        · rw [if_neg e]; exact h4
      · exact h4
/-- So many days are done: those behind them are not ahead of from. -/
structure LI (m : S25) (known : Int) (l : List S43) (j : Nat) (from_ : Int) : Prop where
  le : j ≤ (daysL m known l).length
  done_ : ∀ i, i < j → (daysL m known l).getD i 0 < from_
  left_ : ∀ i, j ≤ i → i < (daysL m known l).length → from_ ≤ (daysL m known l).getD i 0
theorem day_of {m : S25} {known : Int} {l : List S43} {i : Nat} (hi : i < (daysL m known l).length) : ∃ y, y ∈ l ∧ countsB m known y = true ∧ y.f1 = (daysL m known l).getD i 0 ∧ colF m known l ((daysL m known l).getD i 0) = some y := by
  have hm : (daysL m known l).getD i 0 ∈ daysL m known l := by
    rw [List.getD_eq_getElem?_getD, List.getElem?_eq_getElem hi]; exact List.getElem_mem hi
  obtain ⟨y, hy⟩ := Option.isSome_iff_exists.1 ((mem_daysL m known l _).1 hm)
  obtain ⟨h1, h2, h3⟩ := colF_spec m known l _ y hy
  exact ⟨y, h1, h3, h2, hy⟩
theorem days_lt {m : S25} {known : Int} {l : List S43} {i k : Nat} (hik : i < k) (hk : k < (daysL m known l).length) : (daysL m known l).getD i 0 < (daysL m known l).getD k 0 := by
  rw [List.getD_eq_getElem?_getD, List.getD_eq_getElem?_getD, List.getElem?_eq_getElem (show i < _ by omega), List.getElem?_eq_getElem hk]
  exact List.pairwise_iff_getElem.1 (ris_daysL m known l) i k (by omega) hk hik
theorem LI.start (m : S25) (known : Int) (l : List S43) : LI m known l 0 m.f4.f0 :=
  ⟨Nat.zero_le _, fun i h => absurd h (Nat.not_lt_zero i), fun i _ hi => by
    obtain ⟨y, _, h2, h3, _⟩ := day_of hi
    have := (counts_day h2).2.2.1
    omega⟩
theorem LI.none {m : S25} {known : Int} {l : List S43} {j : Nat} {from_ : Int} (h : LI m known l j from_) (hb : bestF m known from_ l = none) : j = (daysL m known l).length := by
  refine Classical.byContradiction fun hne => ?_
  have hj : j < (daysL m known l).length := by have := h.le; omega
  obtain ⟨y, h1, h2, h3, _⟩ := day_of hj
  have := best_none hb y h1 h2
  have := h.left_ j (Nat.le_refl _) hj
  omega
theorem LI.end_ {m : S25} {known : Int} {l : List S43} {j : Nat} {from_ : Int} (h : LI m known l j from_) (hb : m.f4.f1 < from_) : j = (daysL m known l).length := by
  refine Classical.byContradiction fun hne => ?_
  have hj : j < (daysL m known l).length := by have := h.le; omega
  obtain ⟨y, h1, h2, h3, _⟩ := day_of hj
  have := (counts_day h2).2.2.2
  have := h.left_ j (Nat.le_refl _) hj
  omega
theorem LI.some {m : S25} {known : Int} {l : List S43} {j : Nat} {from_ : Int} {b : S43} (h : LI m known l j from_) (hb : bestF m known from_ l = Option.some b) :
    j < (daysL m known l).length ∧ LI m known l (j + 1) (b.f1 + 1) ∧ (colL m known l).take (j + 1) = (colL m known l).take j ++ [b] ∧ b.f1 ≤ m.f4.f1 := by
  obtain ⟨h1, h2, h3, h4⟩ := best_some b hb
  have hbd : b.f1 ∈ daysL m known l := (mem_daysL m known l b.f1).2 (by rw [h4]; rfl)
  obtain ⟨k, hk, hkb⟩ := List.getElem_of_mem hbd
  have hkb' : (daysL m known l).getD k 0 = b.f1 := by rw [List.getD_eq_getElem?_getD, List.getElem?_eq_getElem hk]; exact hkb
  have hjk : j ≤ k := Nat.not_lt.1 fun hlt => by have := h.done_ k hlt; omega
  have hj : j < (daysL m known l).length := by omega
  obtain ⟨y, y1, y2, y3, y4⟩ := day_of hj
  have hle : b.f1 ≤ (daysL m known l).getD j 0 := by
    have := h3 y y1 y2 (by have := h.left_ j (Nat.le_refl _) hj; omega)
    omega
  have hjk2 : j = k := Nat.le_antisymm hjk (Nat.not_lt.1 fun hlt => by have := days_lt (m := m) (known := known) (l := l) hlt hk; omega)
  subst hjk2
  refine ⟨hj, ⟨hj, fun i hi => ?_, fun i hi1 hi2 => ?_⟩, ?_, (counts_day h1).2.2.2⟩
  · rcases Nat.lt_or_ge i j with hlt | hge
    · have := days_lt (m := m) (known := known) (l := l) hlt hj; omega
    · obtain rfl : i = j := by omega
      omega
  · have := days_lt (m := m) (known := known) (l := l) (show j < i by omega) hi2; omega
  · have hlen : j < (colL m known l).length := by unfold colL; rw [List.length_map]; exact hj
    rw [List.take_succ_eq_append_getElem hlen]
    have e : (colL m known l)[j]? = Option.some b := by
      unfold colL
      rw [List.getElem?_map, List.getElem?_eq_getElem hk, hkb]
      show Option.some ((colF m known l b.f1).getD z43) = Option.some b
      rw [h4]; rfl
    rw [(List.getElem?_eq_some_iff.1 e).2]
end Go.Proofs.YtknfkibnocfjiaaDoor.P
