/- What the reference implementation of layer 33 computes: the same plain functions that the program computes. -/
import Derived.Test.YtnheelncgpgkiaaGAccounts
import Derived.Test.YtnheelncgpgkiaaEvLib
import Derived.Test.YtnheelncgpgkiaaPR1
import Derived.Test.YtnheelncgpgkiaaPR2
namespace Go.Proofs.Ytnheelncgpgkiaa.P
open Go.RowKit Go.Proofs.YtnheelncgpgkiaaW.PrintWords Go.Proofs.Ytnheelncgpgkiaa.M
set_option linter.unusedVariables false
set_option linter.unusedSimpArgs false

theorem all_of {l : List S24} {p : S24 → Bool} (h : ∀ j : Nat, j < l.length → p (rd_T24 l (j : Int)) = true) : l.all p = true := by
  rw [List.all_eq_true]
  intro x hx
  obtain ⟨j, hj, rfl⟩ := List.getElem_of_mem hx
  rw [← rd_get hj]; exact h j hj
theorem all_not {l : List S24} {p : S24 → Bool} {j : Nat} (hj : j < l.length) (h : p (rd_T24 l (j : Int)) = false) : l.all p = false := by
  rw [List.all_eq_false]
  exact ⟨l[j], List.getElem_mem hj, by rw [← rd_get hj, h]; decide⟩
theorem all_rd {l : List S24} {p : S24 → Bool} (h : l.all p = true) {j : Nat} (hj : j < l.length) : p (rd_T24 l (j : Int)) = true := by
  rw [rd_get hj]; exact List.all_eq_true.1 h _ (List.getElem_mem hj)

/-! Few -/
def fewOk (x : S24) : Bool := decide (x.f4.size ≤ 100) && decide (x.f5.size ≤ 100)
def fewL (l : List S24) : Bool := decide (l.length ≤ 60) && l.all fewOk
theorem few_loop (l : List S24) (hl : l.length ≤ 9223372036854775807) : ∀ n i : Nat, i + n = l.length → (∀ j : Nat, j < i → fewOk (rd_T24 l (j : Int)) = true) → Ev (fun k => cohousingref33_Few.l0 k l (i : Int)) (fewL l) := by
  intro n
  induction n with
  | zero =>
    intro i hi hok
    refine Ev.step (fun k => by rw [cohousingref33_Few.l0]) ?_
    refine evNeg (by omega) ?_
    refine Ev.step (fun k => by rw [cohousingref33_Few.j1]) ?_
    refine evNeg (by decide) (evEq (Ev.now _) ?_)
    unfold fewL
    rw [all_of (fun j hj => hok j (by omega)), Bool.and_true]
    by_cases h : l.length ≤ 60
    · rw [decide_eq_true h, decide_eq_true (by omega)]
    · rw [decide_eq_false h, decide_eq_false (by omega)]
  | succ n ih =>
    intro i hi hok
    have hlt : i < l.length := by omega
    refine Ev.step (fun k => by rw [cohousingref33_Few.l0]) ?_
    refine evPos (by omega) ?_
    refine Ev.step (fun k => by rw [cohousingref33_Few.j1]) ?_
    by_cases h60 : i < 60
    · refine evPos (by rw [decide_eq_true (show (i : Int) < 60 by omega)]) ?_
      refine evPos (by omega) (evPos (by omega) ?_)
      by_cases h4 : (((rd_T24 l (i : Int)).f4.size : Nat) : Int) > 100
      · refine evPos h4 (evEq (Ev.now _) ?_)
        unfold fewL
        rw [all_not hlt (by unfold fewOk; rw [decide_eq_false (by omega), Bool.false_and]), Bool.and_false]
      · refine evNeg h4 ?_
        by_cases h5 : (((rd_T24 l (i : Int)).f5.size : Nat) : Int) > 100
        · refine evPos h5 (evEq (Ev.now _) ?_)
          unfold fewL
          rw [all_not hlt (by unfold fewOk; rw [decide_eq_false (show ¬ (rd_T24 l (i : Int)).f5.size ≤ 100 by omega), Bool.and_false]), Bool.and_false]
        · refine evNeg h5 ?_
          rw [wrap_succ hlt hl]
          refine ih (i + 1) (by omega) (fun j hj => ?_)
          rcases Nat.lt_or_ge j i with h | h
          · exact hok j h
          · obtain rfl : j = i := by omega
            unfold fewOk
            rw [decide_eq_true (by omega), decide_eq_true (by omega)]; rfl
    · refine evNeg (by rw [decide_eq_false (show ¬ (i : Int) < 60 by omega)]; decide) (evEq (Ev.now _) ?_)
      unfold fewL
      rw [decide_eq_false (show ¬ l.length ≤ 60 by omega), decide_eq_false (by omega), Bool.false_and]
theorem few_ev (l : List S24) (hl : l.length ≤ 9223372036854775807) : Ev (fun k => cohousingref33_Few.f k l) (fewL l) := few_loop l hl l.length 0 (by omega) (fun j hj => absurd hj (Nat.not_lt_zero j))

/-! Account -/
theorem okc_iff (i : Nat) (c : Int) : okc i c = true ↔ (97 ≤ c ∧ c ≤ 122) ∨ (i ≠ 0 ∧ (c = 95 ∨ (48 ≤ c ∧ c ≤ 57))) := by
  unfold okc
  simp only [Bool.or_eq_true, Bool.and_eq_true, decide_eq_true_eq, Bool.not_eq_true', beq_iff_eq, beq_eq_false_iff_ne, ne_eq]
theorem acc_loop (s : ByteArray) (h1 : 1 ≤ s.size) (h16 : s.size ≤ 16) : ∀ n i : Nat, i + n = s.size → (∀ j : Nat, j < i → okc j (bt s (j : Int)) = true) → Ev (fun k => cohousingref33_Account.l0 k s (i : Int)) (accB s) := by
  intro n
  induction n with
  | zero =>
    intro i hi hok
    refine Ev.step (fun k => by rw [cohousingref33_Account.l0]) ?_
    refine evNeg (by omega) (evEq (Ev.now _) ?_)
    rw [accB_of (fun j hj => hok j (by omega)), decide_eq_true h1, decide_eq_true h16]; rfl
  | succ n ih =>
    intro i hi hok
    have hlt : i < s.size := by omega
    have next : okc i (bt s (i : Int)) = true → Ev (fun k => cohousingref33_Account.l0 k s (wrap64 ((i : Int) + 1))) (accB s) := by
      intro h
      rw [wrap_succ hlt (by omega)]
      refine ih (i + 1) (by omega) (fun j hj => ?_)
      rcases Nat.lt_or_ge j i with h' | h'
      · exact hok j h'
      · obtain rfl : j = i := by omega
        exact h
    have bad : ¬ (okc i (bt s (i : Int)) = true) → Ev (fun _ => some false) (accB s) := by
      intro h
      rw [accB_not i hlt (by simpa using h)]
      exact Ev.now _
    rw [okc_iff] at next bad
    refine Ev.step (fun k => by rw [cohousingref33_Account.l0]) ?_
    refine evPos (by omega) (evPos (by omega) ?_)
    generalize bt s (i : Int) = c at *
    repeat' (refine evIte (fun _ => ?_) (fun _ => ?_))
    all_goals first | exact next (by omega) | exact bad (by omega)
theorem acc_ev (s : ByteArray) : Ev (fun k => cohousingref33_Account.f k s) (accB s) := by
  refine evIte (fun h => ?_) (fun h => ?_)
  · refine Ev.step (fun k => by rw [cohousingref33_Account.j0]) (evPos rfl (evEq (Ev.now _) ?_))
    unfold accB
    rw [decide_eq_false (by omega), Bool.false_and, Bool.false_and]
  · refine Ev.step (fun k => by rw [cohousingref33_Account.j0]) ?_
    by_cases h16 : s.size ≤ 16
    · refine evNeg (by rw [decide_eq_false (by omega)]; decide) ?_
      exact acc_loop s (by omega) h16 s.size 0 (by omega) (fun j hj => absurd hj (Nat.not_lt_zero j))
    · refine evPos (by rw [decide_eq_true (by omega)]) (evEq (Ev.now _) ?_)
      unfold accB
      rw [decide_eq_false h16, Bool.and_false, Bool.false_and]

/-! Day, Number, Entry -/
theorem day_f (a : Int) : cohousingref33_Day.f a = some (decide (0 ≤ a) && decide (a ≤ 36524)) := by
  unfold cohousingref33_Day.f
  by_cases h : 0 ≤ a
  · rw [if_pos h, decide_eq_true h, Bool.true_and]
  · rw [if_neg h, decide_eq_false h, Bool.false_and]
theorem number_f (a : Int) : cohousingref33_Number.f a = some (decide (1 ≤ a) && decide (a ≤ 1000000)) := by
  unfold cohousingref33_Number.f
  by_cases h : 1 ≤ a
  · rw [if_pos h, decide_eq_true h, Bool.true_and]
  · rw [if_neg h, decide_eq_false h, Bool.false_and]
theorem entry_ev (x : S24) : Ev (fun k => cohousingref33_Entry.f k x.f0 x.f1 x.f2 x.f3 x.f4 x.f5) (validE x) := by
  unfold validE
  refine evSome (number_f _) ?_
  refine evIte (fun h => ?_) (fun h => ?_)
  · rw [h]
    refine evSome (day_f _) (evIte (fun h => ?_) (fun h => ?_))
    · rw [h]
      refine evSome (day_f _) (evIte (fun h => ?_) (fun h => ?_))
      · rw [h]
        refine evIte (fun h => evIte (fun h' => ?_) (fun h' => ?_)) (fun h => ?_)
        · rw [decide_eq_true (show 1 ≤ x.f3 from h), decide_eq_true h']
          refine Ev.bind (acc_ev _) (evIte (fun h => ?_) (fun h => ?_))
          · rw [h]
            refine Ev.bind (acc_ev _) (evIte (fun h => ?_) (fun h => ?_))
            · rw [h]; exact Ev.now _
            · rw [Bool.not_eq_true] at h; rw [h]; exact evEq (Ev.now _) (by simp)
          · rw [Bool.not_eq_true] at h; rw [h]; exact evEq (Ev.now _) (by simp)
        · rw [decide_eq_false h']; exact evEq (Ev.now _) (by simp)
        · rw [decide_eq_false h]; exact evEq (Ev.now _) (by simp)
      · rw [Bool.not_eq_true] at h; rw [h]; exact evEq (Ev.now _) (by simp)
    · rw [Bool.not_eq_true] at h; rw [h]; exact evEq (Ev.now _) (by simp)
  · rw [Bool.not_eq_true] at h; rw [h]; exact evEq (Ev.now _) (by simp)

/-! find -/
theorem find_loop (l : List S24) (hl : l.length ≤ 9223372036854775807) (id : Int) (r : Int) (hr : (∃ j : Nat, j < l.length ∧ (rd_T24 l (j : Int)).f0 = id ∧ (∀ m : Nat, m < j → (rd_T24 l (m : Int)).f0 ≠ id) ∧ r = j) ∨ ((∀ m : Nat, m < l.length → (rd_T24 l (m : Int)).f0 ≠ id) ∧ r = -1)) :
    ∀ n i : Nat, i + n = l.length → (∀ j : Nat, j < i → (rd_T24 l (j : Int)).f0 ≠ id) → Ev (fun k => cohousingref33_find.l0 k l id (i : Int)) r := by
  intro n
  induction n with
  | zero =>
    intro i hi hok
    refine Ev.step (fun k => by rw [cohousingref33_find.l0]) (evNeg (by omega) (evEq (Ev.now _) ?_))
    rcases hr with ⟨j, hj, h1, _, _⟩ | ⟨_, rfl⟩
    · exact absurd h1 (hok j (by omega))
    · rfl
  | succ n ih =>
    intro i hi hok
    have hlt : i < l.length := by omega
    refine Ev.step (fun k => by rw [cohousingref33_find.l0]) (evPos (by omega) (evPos (by omega) (evIte (fun h => evEq (Ev.now _) ?_) (fun h => ?_))))
    · rcases hr with ⟨j, hj, h1, h2, rfl⟩ | ⟨h1, _⟩
      · have : i = j := by
          rcases Nat.lt_trichotomy i j with h' | h' | h'
          · exact absurd h (h2 i h')
          · exact h'
          · exact absurd h1 (hok j h')
        rw [this]
      · exact absurd h (h1 i hlt)
    · rw [wrap_succ hlt hl]
      refine ih (i + 1) (by omega) (fun j hj => ?_)
      rcases Nat.lt_or_ge j i with h' | h'
      · exact hok j h'
      · obtain rfl : j = i := by omega
        exact h
theorem find_some {l : List S24} (hl : l.length ≤ 9223372036854775807) {id : Int} {j : Nat} (hj : j < l.length) (h1 : (rd_T24 l (j : Int)).f0 = id) (h2 : ∀ m : Nat, m < j → (rd_T24 l (m : Int)).f0 ≠ id) : Ev (fun k => cohousingref33_find.f k l id) (j : Int) :=
  find_loop l hl id j (.inl ⟨j, hj, h1, h2, rfl⟩) l.length 0 (by omega) (fun j hj => absurd hj (Nat.not_lt_zero j))
theorem find_none {l : List S24} (hl : l.length ≤ 9223372036854775807) {id : Int} (h : ∀ m : Nat, m < l.length → (rd_T24 l (m : Int)).f0 ≠ id) : Ev (fun k => cohousingref33_find.f k l id) (-1) :=
  find_loop l hl id (-1) (.inr ⟨h, rfl⟩) l.length 0 (by omega) (fun j hj => absurd hj (Nat.not_lt_zero j))
theorem nodup_rd {l : List S24} : (l.map S24.f0).Nodup ↔ ∀ i j : Nat, i < j → j < l.length → (rd_T24 l (i : Int)).f0 ≠ (rd_T24 l (j : Int)).f0 := by
  unfold List.Nodup
  rw [List.pairwise_iff_getElem]
  constructor
  · intro h i j hij hj
    have := h i j (by simp; omega) (by simpa using hj) hij
    rw [List.getElem_map, List.getElem_map] at this
    rw [rd_get (show i < l.length by omega), rd_get hj]
    exact this
  · intro h i j hi hj hij
    have := h i j hij (by simpa using hj)
    rw [rd_get (show i < l.length by simp at hi; omega), rd_get (show j < l.length by simpa using hj)] at this
    rw [List.getElem_map, List.getElem_map]
    exact this

/-! Valid -/
theorem valid_loop (l : List S24) (hl : l.length ≤ 4000) : ∀ n i : Nat, i + n = l.length → (∀ j : Nat, j < i → validE (rd_T24 l (j : Int)) = true) → (∀ a b : Nat, a < b → b < i → (rd_T24 l (a : Int)).f0 ≠ (rd_T24 l (b : Int)).f0) → Ev (fun k => cohousingref33_Valid.l0 k l (i : Int)) (validL l) := by
  intro n
  induction n with
  | zero =>
    intro i hi hok hnd
    refine Ev.step (fun k => by rw [cohousingref33_Valid.l0]) (evNeg (by omega) (evEq (Ev.now _) ?_))
    unfold validL
    rw [all_of (fun j hj => hok j (by omega)), decide_eq_true hl, decide_eq_true (nodup_rd.2 (fun a b h h' => hnd a b h (by omega)))]; rfl
  | succ n ih =>
    intro i hi hok hnd
    have hlt : i < l.length := by omega
    refine Ev.step (fun k => by rw [cohousingref33_Valid.l0]) (evPos (by omega) (evPos (by omega) ?_))
    refine Ev.bind (entry_ev _) (evIte (fun h => ?_) (fun h => ?_))
    · obtain ⟨m, hm, h1, h2⟩ := exists_first (fun m => (rd_T24 l (m : Int)).f0 = (rd_T24 l (i : Int)).f0) i rfl
      refine Ev.bind (find_some (by omega) (show m < l.length by omega) h1 h2) (evIte (fun h' => ?_) (fun h' => ?_))
      · obtain rfl : m = i := by omega
        rw [wrap_succ hlt (by omega)]
        refine ih (m + 1) (by omega) (fun j hj => ?_) (fun a b hab hb => ?_)
        · rcases Nat.lt_or_ge j m with h' | h'
          · exact hok j h'
          · obtain rfl : j = m := by omega
            exact h
        · rcases Nat.lt_or_ge b m with h' | h'
          · exact hnd a b hab h'
          · obtain rfl : b = m := by omega
            exact h2 a hab
      · refine evEq (Ev.now _) ?_
        unfold validL
        rw [decide_eq_false (fun hn => nodup_rd.1 hn m i (by omega) hlt h1), Bool.and_false]
    · refine evEq (Ev.now _) ?_
      rw [validL_bad hlt (by simpa using h)]
theorem valid_ev (l : List S24) : Ev (fun k => cohousingref33_Valid.f k l) (validL l) := by
  refine evIte (fun h => evEq (Ev.now _) ?_) (fun h => ?_)
  · rw [validL_long (by omega)]
  · exact valid_loop l (by omega) l.length 0 (by omega) (fun j hj => absurd hj (Nat.not_lt_zero j)) (fun a b _ hb => absurd hb (Nat.not_lt_zero b))
theorem usable_ev (l : List S24) (hl : l.length ≤ 9223372036854775807) (a b : Int) : Ev (fun k => cohousinglaw33_usable.f k l a b) (fewL l && validL l && (decide (0 ≤ a) && decide (a ≤ 36524)) && (decide (0 ≤ b) && decide (b ≤ 36524))) := by
  refine Ev.bind (few_ev l hl) (evIte (fun h => ?_) (fun h => ?_))
  · rw [h]
    refine Ev.bind (valid_ev l) (evIte (fun h => ?_) (fun h => ?_))
    · rw [h]
      refine evSome (day_f _) (evIte (fun h => ?_) (fun h => ?_))
      · rw [h]; exact evSome (day_f _) (evEq (Ev.now _) (by simp))
      · rw [Bool.not_eq_true] at h; rw [h]; exact evEq (Ev.now _) (by simp)
    · rw [Bool.not_eq_true] at h; rw [h]; exact evEq (Ev.now _) (by simp)
  · rw [Bool.not_eq_true] at h; rw [h]; exact evEq (Ev.now _) (by simp)
end Go.Proofs.Ytnheelncgpgkiaa.P
