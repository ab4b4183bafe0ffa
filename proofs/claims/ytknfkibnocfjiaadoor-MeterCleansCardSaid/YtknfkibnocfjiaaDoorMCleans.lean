/- P27.2, the plain law: the readings of the meter, later days first, are cleaned to the same ones. -/
import Derived.Test.YtknfkibnocfjiaaDoorMPure3
namespace Go.Proofs.YtknfkibnocfjiaaDoor.P
open Go.RowKit Go.Proofs.YtknfkibnocfjiaaDoorW.PrintWords Go.Proofs.YtknfkibnocfjiaaDoorW.PrintMore Go.Proofs.YtknfkibnocfjiaaDoor.M
set_option linter.unusedVariables false
set_option linter.unusedSimpArgs false
/-- Where a reading is put among the first k of a list: ahead of those of earlier days at its end. -/
def atL (own : List S43) (d : Int) : Nat → Nat
  | 0 => 0
  | k + 1 => if (rd_T43 own (k : Int)).f1 < d then atL own d k else k + 1
theorem atL_le (own : List S43) (d : Int) : ∀ k, atL own d k ≤ k
  | 0 => Nat.le_refl _
  | k + 1 => by
    unfold atL
    split
    · exact Nat.le_succ_of_le (atL_le own d k)
    · exact Nat.le_refl _
theorem atL_late (own : List S43) (d : Int) : ∀ k j : Nat, atL own d k ≤ j → j < k → (rd_T43 own (j : Int)).f1 < d
  | 0, j, _, h => absurd h (Nat.not_lt_zero j)
  | k + 1, j, h1, h2 => by
    unfold atL at h1
    split at h1
    · rename_i hlt
      by_cases e : j = k
      · rw [e]; exact hlt
      · exact atL_late own d k j h1 (by omega)
    · omega
def insL (own : List S43) (r : S43) : List S43 := own.take (atL own r.f1 own.length) ++ [r] ++ own.drop (atL own r.f1 own.length)
def ownStep (m : S25) (own : List S43) (r : S43) : List S43 := if r.f0 = m.f0 then insL own r else own
def ownL (m : S25) (l : List S43) : List S43 := l.foldl (ownStep m) []
theorem ownL_snoc (m : S25) (l : List S43) (r : S43) : ownL m (l ++ [r]) = ownStep m (ownL m l) r := by unfold ownL; rw [List.foldl_append]; rfl
theorem insL_len (own : List S43) (r : S43) : (insL own r).length = own.length + 1 := by
  have := atL_le own r.f1 own.length
  unfold insL; simp; omega
theorem ownL_len (m : S25) (l : List S43) : (ownL m l).length ≤ l.length := by
  refine snoc_ind (p := fun l => (ownL m l).length ≤ l.length) (Nat.le_refl _) (fun l r ih => ?_) l
  rw [ownL_snoc]; unfold ownStep
  split
  · rw [insL_len]; simp; omega
  · simp; omega
theorem drop_late (own : List S43) (d : Int) : ∀ x ∈ own.drop (atL own d own.length), x.f1 < d := by
  intro x hx
  obtain ⟨j, hj, rfl⟩ := List.getElem_of_mem hx
  rw [List.length_drop] at hj
  rw [List.getElem_drop, ← rd43_get]
  exact atL_late own d own.length _ (by omega) (by omega)
theorem mem_insL {own : List S43} {r x : S43} : x ∈ insL own r ↔ x = r ∨ x ∈ own := by
  unfold insL
  rw [List.mem_append, List.mem_append, List.mem_singleton]
  constructor
  · rintro ((h | h) | h)
    · exact .inr (List.mem_of_mem_take h)
    · exact .inl h
    · exact .inr (List.mem_of_mem_drop h)
  · rintro (h | h)
    · exact .inl (.inr h)
    · rw [← List.take_append_drop (atL own r.f1 own.length) own] at h
      rcases List.mem_append.1 h with h | h
      · exact .inl (.inl h)
      · exact .inr h
theorem mem_ownL {m : S25} {l : List S43} : ∀ {x : S43}, x ∈ ownL m l ↔ x ∈ l ∧ x.f0 = m.f0 := by
  refine snoc_ind (p := fun l => ∀ {x : S43}, x ∈ ownL m l ↔ x ∈ l ∧ x.f0 = m.f0) (by simp [ownL]) (fun l r ih => ?_) l
  intro x
  rw [ownL_snoc]; unfold ownStep
  split
  · rename_i h
    rw [mem_insL, ih, List.mem_append, List.mem_singleton]
    constructor
    · rintro (rfl | h1)
      · exact ⟨.inr rfl, h⟩
      · exact ⟨.inl h1.1, h1.2⟩
    · rintro ⟨h1 | rfl, h2⟩
      · exact .inr ⟨h1, h2⟩
      · exact .inl rfl
  · rename_i h
    rw [ih, List.mem_append, List.mem_singleton]
    constructor
    · rintro ⟨h1, h2⟩; exact ⟨.inl h1, h2⟩
    · rintro ⟨h1 | rfl, h2⟩
      · exact ⟨h1, h2⟩
      · exact absurd h2 h
/-- The readings of a day keep their order. -/
theorem insL_day (own : List S43) (r : S43) (d : Int) : (insL own r).filter (fun x => decide (x.f1 = d)) = own.filter (fun x => decide (x.f1 = d)) ++ if r.f1 = d then [r] else [] := by
  unfold insL
  rw [List.filter_append, List.filter_append]
  have hsplit : own.filter (fun x => decide (x.f1 = d)) = (own.take (atL own r.f1 own.length)).filter (fun x => decide (x.f1 = d)) ++ (own.drop (atL own r.f1 own.length)).filter (fun x => decide (x.f1 = d)) := by
    rw [← List.filter_append, List.take_append_drop]
  rw [hsplit]
  by_cases h : r.f1 = d
  · have h0 : (own.drop (atL own r.f1 own.length)).filter (fun x => decide (x.f1 = d)) = [] := by
      rw [List.filter_eq_nil_iff]
      intro x hx
      have := drop_late own r.f1 x hx
      simp only [decide_eq_true_eq]; omega
    rw [h0, if_pos h]
    simp [h]
  · rw [if_neg h]
    simp [h]
theorem ownL_day (m : S25) (l : List S43) (d : Int) : (ownL m l).filter (fun x => decide (x.f1 = d)) = (l.filter fun x => decide (x.f0 = m.f0)).filter (fun x => decide (x.f1 = d)) := by
  refine snoc_ind (p := fun l => (ownL m l).filter (fun x => decide (x.f1 = d)) = (l.filter fun x => decide (x.f0 = m.f0)).filter (fun x => decide (x.f1 = d))) rfl (fun l r ih => ?_) l
  rw [ownL_snoc, List.filter_append, List.filter_append, ← ih]
  unfold ownStep
  by_cases h : r.f0 = m.f0
  · rw [if_pos h, insL_day]
    congr 1
    by_cases h2 : r.f1 = d <;> simp [h, h2]
  · rw [if_neg h]; simp [h]
/-- What counts for a day hangs on the readings of that day alone. -/
theorem colF_day (m : S25) (known : Int) (l : List S43) (d : Int) : colF m known l d = colF m known (l.filter fun x => decide (x.f1 = d)) d := by
  refine snoc_ind (p := fun l => colF m known l d = colF m known (l.filter fun x => decide (x.f1 = d)) d) rfl (fun l r ih => ?_) l
  rw [List.filter_append]
  by_cases h : r.f1 = d
  · rw [show [r].filter (fun x => decide (x.f1 = d)) = [r] by simp [h], colF_snoc, colF_snoc]
    unfold colStep
    rw [h, ih]
    by_cases hc : countsB m known r = true ∧ ∀ old, colF m known (l.filter fun x => decide (x.f1 = d)) d = some old → old.f3 ≤ r.f3
    · rw [if_pos hc, if_pos hc]; simp
    · rw [if_neg hc, if_neg hc]; exact ih
  · rw [show [r].filter (fun x => decide (x.f1 = d)) = [] by simp [h], List.append_nil, colF_snoc]
    unfold colStep
    split
    · show (if d = r.f1 then some r else colF m known l d) = _
      rw [if_neg (fun e => h e.symm)]; exact ih
    · exact ih
theorem colF_meter (m : S25) (known : Int) (l : List S43) : colF m known (l.filter fun x => decide (x.f0 = m.f0)) = colF m known l := by
  refine snoc_ind (p := fun l => colF m known (l.filter fun x => decide (x.f0 = m.f0)) = colF m known l) rfl (fun l r ih => ?_) l
  rw [List.filter_append, colF_snoc]
  by_cases h : r.f0 = m.f0
  · rw [show [r].filter (fun x => decide (x.f0 = m.f0)) = [r] by simp [h], colF_snoc, ih]
  · rw [show [r].filter (fun x => decide (x.f0 = m.f0)) = [] by simp [h], List.append_nil, ih]
    unfold colStep
    rw [if_neg]
    rintro ⟨hc, _⟩
    unfold countsB at hc
    simp only [Bool.and_eq_true, beq_iff_eq] at hc
    exact h hc.1.1.1
theorem colF_own (m : S25) (known : Int) (l : List S43) : colF m known (ownL m l) = colF m known l := by
  funext d
  rw [colF_day, ownL_day, ← colF_day, colF_meter]
theorem clean_own {m : S25} {known : Int} {l : List S43} (h : (cleanL m l known).2 = 0) : cleanL m (ownL m l) known = cleanL m l known := by
  obtain ⟨hv, hr, hc⟩ := cleanL_ok h
  have hr2 : readingsL (ownL m l) = true := by
    unfold readingsL at hr ⊢
    simp only [Bool.and_eq_true, decide_eq_true_eq, List.all_eq_true] at hr ⊢
    exact ⟨Nat.le_trans (ownL_len m l) hr.1, fun x hx => hr.2 x (mem_ownL.1 hx).1⟩
  have hd : daysL m known (ownL m l) = daysL m known l :=
    (ris_daysL m known _).ext (ris_daysL m known _) (fun d => by rw [mem_daysL, mem_daysL, colF_own])
  have hcl : colL m known (ownL m l) = colL m known l := by unfold colL; rw [colF_own, hd]
  unfold cleanL
  rw [hr2, hr, hcl]
/-- What of the first loop of the law is true. -/
theorem clean_rise {m : S25} {known : Int} {c : List S43} (h : CleanOk m known c) {i : Nat} (hi : i < c.length) : ∀ j : Nat, j < i → (rd_T43 c (j : Int)).f1 < (rd_T43 c (i : Int)).f1 := fun j hj => rise_rd h.rise hj hi
/-- The map of the first loop: each day's reading. -/
def ofF (c : List S43) : Int → Option S43 := c.foldl (fun f r => fun d => if d = r.f1 then some r else f d) fun _ => none
theorem ofF_snoc (c : List S43) (r : S43) : ofF (c ++ [r]) = fun d => if d = r.f1 then some r else ofF c d := by unfold ofF; rw [List.foldl_append]; rfl
theorem ofF_days (c : List S43) (hr : c.Pairwise (fun x y => x.f1 < y.f1)) : (∀ x ∈ c, ofF c x.f1 = some x) ∧ ∀ d y, ofF c d = some y → y ∈ c ∧ y.f1 = d := by
  refine snoc_ind (p := fun c => c.Pairwise (fun x y => x.f1 < y.f1) → (∀ x ∈ c, ofF c x.f1 = some x) ∧ ∀ d y, ofF c d = some y → y ∈ c ∧ y.f1 = d) (fun _ => ⟨fun x hx => by simp at hx, fun d y h => by simp [ofF] at h⟩) (fun c r ih hr => ?_) c hr
  rw [List.pairwise_append] at hr
  obtain ⟨i1, i2⟩ := ih hr.1
  rw [ofF_snoc]
  refine ⟨fun x hx => ?_, fun d y h => ?_⟩
  · rcases List.mem_append.1 hx with hx | hx
    · have := hr.2.2 x hx r (by simp)
      show (if x.f1 = r.f1 then some r else ofF c x.f1) = some x
      rw [if_neg (by omega)]; exact i1 x hx
    · obtain rfl : x = r := by simpa using hx
      simp
  · by_cases e : d = r.f1
    · have h' : (if d = r.f1 then some r else ofF c d) = some y := h
      rw [if_pos e] at h'
      cases h'
      exact ⟨by simp, e.symm⟩
    · have h' : (if d = r.f1 then some r else ofF c d) = some y := h
      rw [if_neg e] at h'
      obtain ⟨a, b⟩ := i2 d y h'
      exact ⟨by simp [a], b⟩
/-- The reading that counts for a reading's day is there, and not known earlier. -/
theorem col_best {m : S25} {known : Int} {l : List S43} : ∀ {r : S43}, r ∈ l → countsB m known r = true → ∃ y, colF m known l r.f1 = some y ∧ r.f3 ≤ y.f3 := by
  refine snoc_ind (p := fun l => ∀ {r : S43}, r ∈ l → countsB m known r = true → ∃ y, colF m known l r.f1 = some y ∧ r.f3 ≤ y.f3) (fun h => by simp at h) (fun l x ih => ?_) l
  intro r hr hc
  rw [colF_snoc]; unfold colStep
  rcases List.mem_append.1 hr with hr | hr
  · obtain ⟨y, h1, h2⟩ := ih hr hc
    by_cases hx : countsB m known x = true ∧ ∀ old, colF m known l x.f1 = some old → old.f3 ≤ x.f3
    · rw [if_pos hx]
      by_cases e : r.f1 = x.f1
      · refine ⟨x, by simp [e], ?_⟩
        rw [e] at h1
        exact Int.le_trans h2 (hx.2 y h1)
      · exact ⟨y, by simp [e, h1], h2⟩
    · rw [if_neg hx]; exact ⟨y, h1, h2⟩
  · obtain rfl : r = x := by simpa using hr
    by_cases hx : countsB m known r = true ∧ ∀ old, colF m known l r.f1 = some old → old.f3 ≤ r.f3
    · rw [if_pos hx]
      exact ⟨r, by simp, Int.le_refl _⟩
    · rw [if_neg hx]
      refine Classical.byContradiction fun hno => hx ⟨hc, fun old ho => ?_⟩
      refine Classical.byContradiction fun hlt => hno ⟨old, ho, by omega⟩
theorem of_best {m : S25} {known : Int} {l : List S43} (h : (cleanL m l known).2 = 0) {r : S43} (hr : r ∈ l) (hc : countsB m known r = true) : ∃ y, ofF (cleanL m l known).1 r.f1 = some y ∧ r.f3 ≤ y.f3 := by
  have hk := clean_ok h
  obtain ⟨_, _, he⟩ := cleanL_ok h
  obtain ⟨y, h1, h2⟩ := col_best hr hc
  refine ⟨y, ?_, h2⟩
  obtain ⟨_, hy, _⟩ := colF_spec m known l r.f1 y h1
  have hd : r.f1 ∈ daysL m known l := (mem_daysL m known l r.f1).2 (by rw [h1]; rfl)
  have hm : y ∈ (cleanL m l known).1 := by
    rw [he]; unfold colL
    exact List.mem_map.2 ⟨r.f1, hd, by rw [h1]; rfl⟩
  have := (ofF_days _ hk.rise).1 y hm
  rwa [hy] at this
end Go.Proofs.YtknfkibnocfjiaaDoor.P
