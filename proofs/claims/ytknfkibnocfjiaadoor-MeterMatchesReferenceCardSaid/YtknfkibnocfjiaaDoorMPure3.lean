/- Plain facts for MeterSeveral and MeterKnowledge. -/
import Derived.Test.YtknfkibnocfjiaaDoorMPure2
namespace Go.Proofs.YtknfkibnocfjiaaDoor.P
open Go.RowKit Go.Proofs.YtknfkibnocfjiaaDoorW.PrintWords Go.Proofs.YtknfkibnocfjiaaDoorW.PrintMore Go.Proofs.YtknfkibnocfjiaaDoor.M
set_option linter.unusedVariables false
set_option linter.unusedSimpArgs false

theorem partsL_in {m : S25} {known : Int} {c : List S43} (h : CleanOk m known c) : ∀ x ∈ partsL m c, m.f4.f0 ≤ x.a ∧ x.b ≤ m.f4.f1 := by
  obtain ⟨hm0, hm1, hm2, hm3, hm4, hm5, hm6⟩ := validM_bounds h.valid
  have hat : ∀ i, i < c.length → m.f4.f0 ≤ (rd_T43 c (i : Int)).f1 ∧ (rd_T43 c (i : Int)).f1 ≤ m.f4.f1 := fun i hi => (counts_day (h.counts _ (mem_rd hi))).2.2
  intro x hx
  unfold partsL uptoP at hx
  rcases List.mem_append.1 hx with hx | hx
  · obtain ⟨i, hi, rfl⟩ := List.mem_map.1 hx
    have hi := List.mem_range.1 hi
    cases i with
    | zero => exact ⟨Int.le_refl _, (hat 0 hi).2⟩
    | succ j => exact ⟨(hat j (by omega)).1, (hat (j + 1) hi).2⟩
  · obtain rfl := List.mem_singleton.1 hx
    refine ⟨?_, Int.le_refl _⟩
    show m.f4.f0 ≤ fromF m c c.length
    cases hc : c.length with
    | zero => exact Int.le_refl _
    | succ j => exact (hat j (by omega)).1
theorem bP_away {m : S25} {d : S23} {x : Part} (hd : 0 ≤ m.f3 ∧ m.f3 ≤ 100) (hx : POk m x) (h : inP d x.a x.b = 0) : bP m d x = (0, 0) := by
  obtain ⟨h1, h2, h3, h4, h5, h6⟩ := hx
  have hl : loP m d x = 0 := by
    unfold loP; rw [h, Int.sub_zero]
    split
    · unfold mx; split <;> omega
    · rfl
  have hh : hiP m d x = 0 := by
    unfold hiP; rw [h, Int.mul_zero]
    split
    · unfold mn; split <;> omega
    · rfl
  unfold bP
  rw [hl, hh]
  rw [show (1000 * 0 + m.f3 + 999 : Int) / (1000 + m.f3) = 0 from Int.ediv_eq_zero_of_lt (by omega) (by omega), show (1000 * 0 : Int) / (1000 - m.f3) = 0 from Int.ediv_eq_zero_of_lt (by omega) (by omega)]
theorem sum_away {m : S25} {d : S23} (l : List Part) (h : ∀ x ∈ l, bP m d x = (0, 0)) : sumP m d l = (0, 0) := by
  refine snoc_ind (p := fun l => (∀ x ∈ l, bP m d x = (0, 0)) → sumP m d l = (0, 0)) (fun _ => by simp [sumP]) (fun l x ih h => ?_) l h
  rw [sumP_snoc, ih (fun y hy => h y (List.mem_append.2 (.inl hy))), h x (by simp)]; rfl
theorem bounds_ok {m : S25} {l : List S43} {d : S23} {known : Int} (h : (boundsL m l d known).2 = 0) : stretchB d.f0 d.f1 = true ∧ (cleanL m l known).2 = 0 := by
  by_cases hs : stretchB d.f0 d.f1 = true
  · exact ⟨hs, by rw [bounds_er2 hs] at h; exact h⟩
  · unfold boundsL at h; rw [if_neg hs] at h; simp at h
/-- A meter that is not there on any of the days. -/
theorem bounds_away {m : S25} {l : List S43} {d : S23} {known : Int} (h : (boundsL m l d known).2 = 0) (ha : m.f4.f1 ≤ d.f0 ∨ d.f1 ≤ m.f4.f0) : (boundsL m l d known).1 = (0, 0) := by
  obtain ⟨hs, hc⟩ := bounds_ok h
  have hk := clean_ok hc
  obtain ⟨hm0, hm1, hm2, hm3, hm4, hm5, hm6⟩ := validM_bounds hk.valid
  rw [bounds_clean hs hc]
  refine sum_away _ fun x hx => bP_away hm3 (partsL_ok hk x hx) ?_
  have hi := partsL_in hk x hx
  have ho := (partsL_ok hk x hx).2.1
  unfold inP mx mn
  repeat' split
  all_goals omega
theorem sevF_err (r : List S43) (d : S23) (known : Int) : ∀ (l : List S25) (s : Int × Int), (sevF r d known l s).2 ≠ 0 → (sevF r d known l s).1 = (0, 0)
  | [], s, h => absurd rfl h
  | m :: ms, s, h => by
    rw [sevF] at h ⊢
    split
    · rename_i h0
      rw [if_pos h0] at h
      exact sevF_err r d known ms _ h
    · rfl
theorem several_err {l : List S25} {r : List S43} {d : S23} {known : Int} (h : (severalL l r d known).2 ≠ 0) : (severalL l r d known).1 = (0, 0) := by
  unfold severalL at h ⊢
  split
  · rename_i h1
    rw [if_pos h1] at h
    split
    · rfl
    · rename_i h2
      rw [if_neg h2] at h
      exact sevF_err r d known l _ h
  · rfl
theorem several_ok {l : List S25} {r : List S43} {d : S23} {known : Int} (h : (severalL l r d known).2 = 0) : severalL l r d known = sevF r d known l (0, 0) := by
  unfold severalL at h ⊢
  split
  · rename_i h1
    rw [if_pos h1] at h
    split
    · rename_i h2; rw [if_pos h2] at h; simp at h
    · rfl
  · rename_i h1; rw [if_neg h1] at h; simp at h
theorem sevF_head {r : List S43} {d : S23} {known : Int} {m : S25} {ms : List S25} {s X : Int × Int} (h : sevF r d known (m :: ms) s = (X, 0)) :
    (boundsL m r d known).2 = 0 ∧ sevF r d known ms (wrap64 (s.1 + (boundsL m r d known).1.1), wrap64 (s.2 + (boundsL m r d known).1.2)) = (X, 0) := by
  rw [sevF] at h
  split at h
  · rename_i h0; exact ⟨h0, h⟩
  · rename_i h0; exact absurd (congrArg Prod.snd h) h0

/-! ### Readings that become known later do not matter -/
theorem colF_known (m : S25) (known : Int) (l : List S43) : colF m known (l.filter fun r => decide (r.f3 ≤ known)) = colF m known l ∧ daysL m known (l.filter fun r => decide (r.f3 ≤ known)) = daysL m known l := by
  refine snoc_ind (p := fun l => colF m known (l.filter fun r => decide (r.f3 ≤ known)) = colF m known l ∧ daysL m known (l.filter fun r => decide (r.f3 ≤ known)) = daysL m known l) ⟨rfl, rfl⟩ (fun l r ih => ?_) l
  rw [List.filter_append]
  by_cases h : r.f3 ≤ known
  · rw [show [r].filter (fun r => decide (r.f3 ≤ known)) = [r] by simp [h], colF_snoc, colF_snoc, daysL_snoc, daysL_snoc, ih.1, ih.2]; exact ⟨rfl, rfl⟩
  · rw [show [r].filter (fun r => decide (r.f3 ≤ known)) = [] by simp [h], List.append_nil, colF_snoc, daysL_snoc]
    have hc : countsB m known r = false := by unfold countsB; rw [decide_eq_false h, Bool.and_false]; rfl
    unfold colStep dayStep
    rw [hc, if_neg (fun h => Bool.noConfusion h.1), if_neg (by simp)]
    exact ih
theorem clean_known {m : S25} {known : Int} {l : List S43} (hr : readingsL l = true) : cleanL m (l.filter fun r => decide (r.f3 ≤ known)) known = cleanL m l known := by
  have hr2 : readingsL (l.filter fun r => decide (r.f3 ≤ known)) = true := by
    unfold readingsL at hr ⊢
    simp only [Bool.and_eq_true, decide_eq_true_eq, List.all_eq_true] at hr ⊢
    exact ⟨Nat.le_trans (List.length_filter_le _ _) hr.1, fun x hx => hr.2 x (List.mem_filter.1 hx).1⟩
  have hc : colL m known (l.filter fun r => decide (r.f3 ≤ known)) = colL m known l := by
    unfold colL; rw [(colF_known m known l).1, (colF_known m known l).2]
  unfold cleanL
  rw [hr, hr2, hc]
theorem bounds_known {m : S25} {known : Int} {l : List S43} {d : S23} (hr : readingsL l = true) : boundsL m (l.filter fun r => decide (r.f3 ≤ known)) d known = boundsL m l d known := by
  unfold boundsL; rw [clean_known hr]
end Go.Proofs.YtknfkibnocfjiaaDoor.P
