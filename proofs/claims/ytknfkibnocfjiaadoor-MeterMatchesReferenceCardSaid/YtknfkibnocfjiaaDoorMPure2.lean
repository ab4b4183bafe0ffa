/- Plain facts on clean lists of readings: days rise, parts are as they should be; Bounds as plain sums; more days, greater bounds. -/
import Derived.Test.YtknfkibnocfjiaaDoorMPure
namespace Go.Proofs.YtknfkibnocfjiaaDoor.P
open Go.RowKit Go.Proofs.YtknfkibnocfjiaaDoorW.PrintWords Go.Proofs.YtknfkibnocfjiaaDoorW.PrintMore Go.Proofs.YtknfkibnocfjiaaDoor.M
set_option linter.unusedVariables false
set_option linter.unusedSimpArgs false

/-- What a list of readings that has been cleaned is. -/
structure CleanOk (m : S25) (known : Int) (c : List S43) : Prop where
  valid : validM m = true
  ok : ∀ x ∈ c, readingOk x = true
  counts : ∀ x ∈ c, countsB m known x = true
  value : ∀ x ∈ c, x.f2 < pow10 m.f1
  rise : c.Pairwise (fun x y => x.f1 < y.f1)
  gap : ∀ i : Nat, i + 1 < c.length → gapF m c i < pow10 m.f1
  flow : ∀ i : Nat, i + 1 < c.length → shownF (pow10 m.f1) (rd_T43 c (i : Int)).f2 (rd_T43 c ((i : Int) + 1)).f2 ≤ gapF m c i
  few : c.length ≤ 1000
theorem colL_days (m : S25) (known : Int) (l : List S43) : (colL m known l).map S43.f1 = daysL m known l := by
  unfold colL
  rw [List.map_map]
  refine (List.map_congr_left (fun d hd => ?_)).trans (List.map_id _)
  obtain ⟨y, hy⟩ := Option.isSome_iff_exists.1 ((mem_daysL m known l d).1 hd)
  obtain ⟨_, h2, _⟩ := colF_spec m known l d y hy
  show ((colF m known l d).getD z43).f1 = d
  rw [hy]; exact h2
theorem clean_ok {m : S25} {l : List S43} {known : Int} (h : (cleanL m l known).2 = 0) : CleanOk m known (cleanL m l known).1 := by
  obtain ⟨hv, hr, hc⟩ := cleanL_ok h
  have hkn : inB known 0 36524 = true := by
    unfold cleanL at h
    by_cases h1 : (validM m && readingsL l && inB known 0 36524) = true
    · simp only [Bool.and_eq_true] at h1; exact h1.2
    · rw [if_neg h1] at h; simp at h
  have h1 : (validM m && readingsL l && inB known 0 36524) = true := by rw [hv, hr, hkn]; rfl
  unfold cleanL at h
  rw [if_pos h1] at h
  have hval : ¬ (((colL m known l).any fun r => decide (pow10 m.f1 ≤ r.f2)) = true) := fun e => by rw [if_pos e] at h; simp at h
  rw [if_neg hval] at h
  have hran : ¬ (((List.range ((colL m known l).length - 1)).any (rangeBad m (colL m known l))) = true) := fun e => by rw [if_pos e] at h; simp at h
  rw [if_neg hran] at h
  have hflo : ¬ (((List.range ((colL m known l).length - 1)).any (flowBad m (colL m known l))) = true) := fun e => by rw [if_pos e] at h; simp at h
  rw [hc]
  unfold readingsL at hr
  simp only [Bool.and_eq_true, decide_eq_true_eq, List.all_eq_true] at hr
  refine ⟨hv, fun x hx => hr.2 x (mem_colL hx).1, fun x hx => (mem_colL hx).2, fun x hx => ?_, ?_, fun i hi => ?_, fun i hi => ?_, Nat.le_trans (len_colL m known l) hr.1⟩
  · rw [Bool.not_eq_true, List.any_eq_false] at hval
    have := hval x hx
    simp only [decide_eq_true_eq] at this
    omega
  · have h2 := ris_daysL m known l
    rw [← colL_days] at h2
    exact List.pairwise_map.1 h2
  · rw [Bool.not_eq_true, List.any_eq_false] at hran
    have := hran i (List.mem_range.2 (by omega))
    unfold rangeBad at this
    simp only [decide_eq_true_eq] at this
    omega
  · rw [Bool.not_eq_true, List.any_eq_false] at hflo
    have := hflo i (List.mem_range.2 (by omega))
    unfold flowBad at this
    simp only [decide_eq_true_eq] at this
    omega
theorem mem_rd {c : List S43} {i : Nat} (h : i < c.length) : rd_T43 c (i : Int) ∈ c := by rw [rd43_get h]; exact List.getElem_mem h
theorem rise_rd {c : List S43} (h : c.Pairwise (fun x y => x.f1 < y.f1)) {i j : Nat} (hij : i < j) (hj : j < c.length) : (rd_T43 c (i : Int)).f1 < (rd_T43 c (j : Int)).f1 := by
  rw [rd43_get hj, rd43_get (show i < c.length by omega)]
  exact List.pairwise_iff_getElem.1 h i j (by omega) hj hij
theorem counts_day {m : S25} {known : Int} {x : S43} (h : countsB m known x = true) : x.f0 = m.f0 ∧ x.f3 ≤ known ∧ m.f4.f0 ≤ x.f1 ∧ x.f1 ≤ m.f4.f1 := by
  unfold countsB at h
  simp only [Bool.and_eq_true, beq_iff_eq, decide_eq_true_eq] at h
  exact ⟨h.1.1.1, h.1.1.2, h.1.2, h.2⟩
theorem shown_bd {p a b : Int} (ha : 0 ≤ a) (ha' : a < p) (hb : 0 ≤ b) (hb' : b < p) : 0 ≤ shownF p a b ∧ shownF p a b < p := by unfold shownF; split <;> omega
theorem partAt_ok {m : S25} {known : Int} {c : List S43} (h : CleanOk m known c) {i : Nat} (hi : i < c.length) : POk m (partAt m c i) := by
  obtain ⟨hm0, hm1, hm2, hm3, hm4, hm5, hm6⟩ := validM_bounds h.valid
  have hd := counts_day (h.counts _ (mem_rd hi))
  have hpb := pow10_bound (show 0 ≤ m.f1 by omega) hm1.2
  cases i with
  | zero =>
    have hn := mul_mono (show (0 : Int) ≤ m.f2 by omega) (show 0 ≤ (rd_T43 c ((0 : Nat) : Int)).f1 - m.f4.f0 by omega)
    rw [Int.mul_zero] at hn
    exact ⟨hm4, by show m.f4.f0 ≤ (rd_T43 c ((0 : Nat) : Int)).f1; omega, by show (rd_T43 c ((0 : Nat) : Int)).f1 ≤ 36525; omega, Int.le_refl _, hn, by show (0 : Int) ≤ 2000000; omega⟩
  | succ j =>
    have hd' := counts_day (h.counts _ (mem_rd (show j < c.length by omega)))
    have hr := rise_rd h.rise (show j < j + 1 by omega) hi
    have o1 := readingOk_bounds (h.ok _ (mem_rd hi))
    have o2 := readingOk_bounds (h.ok _ (mem_rd (show j < c.length by omega)))
    have v1 := h.value _ (mem_rd hi)
    have v2 := h.value _ (mem_rd (show j < c.length by omega))
    have hf := h.flow j hi
    have hs := shown_bd o2.2.2.2.1 v2 o1.2.2.2.1 v1
    exact ⟨by show 0 ≤ (rd_T43 c (j : Int)).f1; omega, Int.le_of_lt hr, by show (rd_T43 c ((j + 1 : Nat) : Int)).f1 ≤ 36525; omega, hs.1, hf, by show shownF _ _ _ ≤ 2000000; omega⟩
theorem partsL_ok {m : S25} {known : Int} {c : List S43} (h : CleanOk m known c) : ∀ x ∈ partsL m c, POk m x := by
  obtain ⟨hm0, hm1, hm2, hm3, hm4, hm5, hm6⟩ := validM_bounds h.valid
  intro x hx
  unfold partsL uptoP at hx
  rcases List.mem_append.1 hx with hx | hx
  · obtain ⟨i, hi, rfl⟩ := List.mem_map.1 hx
    exact partAt_ok h (List.mem_range.1 hi)
  · obtain rfl := List.mem_singleton.1 hx
    have hF : 0 ≤ fromF m c c.length ∧ fromF m c c.length ≤ m.f4.f1 := by
      cases hc : c.length with
      | zero => exact ⟨hm4, by show m.f4.f0 ≤ m.f4.f1; omega⟩
      | succ j =>
        have hd := counts_day (h.counts _ (mem_rd (show j < c.length by omega)))
        show 0 ≤ (rd_T43 c (j : Int)).f1 ∧ (rd_T43 c (j : Int)).f1 ≤ m.f4.f1
        omega
    have hn := mul_mono (show (0 : Int) ≤ m.f2 by omega) (show 0 ≤ m.f4.f1 - fromF m c c.length by omega)
    rw [Int.mul_zero] at hn
    exact ⟨hF.1, hF.2, hm6, Int.le_refl _, hn, by show (0 : Int) ≤ 2000000; omega⟩
theorem stretchB_iff {a b : Int} : stretchB a b = true ↔ 0 ≤ a ∧ a < b ∧ b ≤ 36525 := by
  unfold stretchB; simp only [Bool.and_eq_true, decide_eq_true_eq]; exact ⟨fun h => ⟨h.1.1, h.1.2, h.2⟩, fun h => ⟨⟨h.1, h.2.1⟩, h.2.2⟩⟩
/-- Bounds, where the readings can be cleaned. -/
theorem bounds_clean {m : S25} {l : List S43} {d : S23} {known : Int} (hs : stretchB d.f0 d.f1 = true) (h : (cleanL m l known).2 = 0) : boundsL m l d known = (sumP m d (partsL m (cleanL m l known).1), 0) := by
  have hc := clean_ok h
  obtain ⟨hm0, hm1, hm2, hm3, hm4, hm5, hm6⟩ := validM_bounds hc.valid
  unfold boundsL
  rw [if_pos hs, if_pos h, sumW_eq hm2 hm3 (stretchB_iff.1 hs) _ (partsL_ok hc) (by rw [partsL_length]; have := hc.few; omega)]
theorem bounds_err {m : S25} {l : List S43} {d : S23} {known : Int} (hs : stretchB d.f0 d.f1 = true) (h : (cleanL m l known).2 ≠ 0) : boundsL m l d known = ((0, 0), (cleanL m l known).2) := by
  unfold boundsL; rw [if_pos hs, if_neg h]
theorem bounds_er2 {m : S25} {l : List S43} {d : S23} {known : Int} (hs : stretchB d.f0 d.f1 = true) : (boundsL m l d known).2 = (cleanL m l known).2 := by
  by_cases h : (cleanL m l known).2 = 0
  · rw [bounds_clean hs h, h]
  · rw [bounds_err hs h]

/-! ### More days -/
theorem part_more {m : S25} {d e : S23} {x : Part} (hm : 1 ≤ m.f2 ∧ m.f2 ≤ 10000) (hd : 0 ≤ m.f3 ∧ m.f3 ≤ 100) (h0 : e.f0 ≤ d.f0) (h1 : d.f1 ≤ e.f1) (hx : x.a ≤ x.b) : (bP m d x).1 ≤ (bP m e x).1 ∧ (bP m d x).2 ≤ (bP m e x).2 := by
  have hi : inP d x.a x.b ≤ inP e x.a x.b := by
    unfold inP mx mn
    repeat' split
    all_goals omega
  have hM := mul_mono (show (0 : Int) ≤ m.f2 by omega) hi
  have hO := mul_mono (show (0 : Int) ≤ m.f2 by omega) (show x.b - x.a - inP e x.a x.b ≤ x.b - x.a - inP d x.a x.b by omega)
  have hlo : loP m d x ≤ loP m e x := by
    unfold loP
    split
    · unfold mx; split <;> split <;> omega
    · exact Int.le_refl _
  have hhi : hiP m d x ≤ hiP m e x := by
    unfold hiP
    split
    · unfold mn; split <;> split <;> omega
    · exact hM
  unfold bP
  exact ⟨Int.ediv_le_ediv (by omega) (by omega), Int.ediv_le_ediv (by omega) (by omega)⟩
theorem sum_more {m : S25} {d e : S23} (hm : 1 ≤ m.f2 ∧ m.f2 ≤ 10000) (hd : 0 ≤ m.f3 ∧ m.f3 ≤ 100) (h0 : e.f0 ≤ d.f0) (h1 : d.f1 ≤ e.f1) (l : List Part) (h : ∀ x ∈ l, POk m x) : (sumP m d l).1 ≤ (sumP m e l).1 ∧ (sumP m d l).2 ≤ (sumP m e l).2 := by
  refine snoc_ind (p := fun l => (∀ x ∈ l, POk m x) → (sumP m d l).1 ≤ (sumP m e l).1 ∧ (sumP m d l).2 ≤ (sumP m e l).2) (fun _ => by simp [sumP]) (fun l x ih h => ?_) l h
  have hi := ih (fun y hy => h y (List.mem_append.2 (.inl hy)))
  have hx := part_more (d := d) (e := e) hm hd h0 h1 (h x (by simp)).2.1
  rw [sumP_snoc, sumP_snoc]
  dsimp only
  omega
end Go.Proofs.YtknfkibnocfjiaaDoor.P
