/- What the functions of package ledger compute, as plain Lean functions on entries. -/
import Derived.Test.YtnheelncgpgkiaaPR1
namespace Go.Proofs.Ytnheelncgpgkiaa.P
open Go.RowKit Go.Proofs.YtnheelncgpgkiaaW.PrintWords
set_option linter.unusedVariables false

/-- May byte c stand at place i of an account's name? -/
def okc (i : Nat) (c : Int) : Bool := (decide (97 ≤ c) && decide (c ≤ 122)) || (!(i == 0) && (c == 95 || (decide (48 ≤ c) && decide (c ≤ 57))))
def accB (s : ByteArray) : Bool := decide (1 ≤ s.size) && decide (s.size ≤ 16) && (List.range s.size).all fun i => okc i (bt s i)
def small (s : ByteArray) : Bool := decide (s.size ≤ 9223372036854775807)
def ledger_isAccount.f (a0 : ByteArray) : Option Bool := if small a0 = true then some (accB a0) else none
theorem accB_of {s : ByteArray} (h : ∀ i, i < s.size → okc i (bt s i) = true) : accB s = (decide (1 ≤ s.size) && decide (s.size ≤ 16)) := by
  unfold accB
  have : (List.range s.size).all (fun i => okc i (bt s i)) = true := by
    rw [List.all_eq_true]; intro i hi; exact h i (List.mem_range.1 hi)
  rw [this, Bool.and_true]
theorem accB_not {s : ByteArray} (i : Nat) (hi : i < s.size) (h : okc i (bt s i) = false) : accB s = false := by
  unfold accB
  have : (List.range s.size).all (fun i => okc i (bt s i)) = false := by
    rw [List.all_eq_false]; exact ⟨i, List.mem_range.2 hi, by rw [h]; decide⟩
  rw [this, Bool.and_false]

/-- Is an entry valid? -/
def validE (x : S24) : Bool := (decide (1 ≤ x.f0) && decide (x.f0 ≤ 1000000)) && (decide (0 ≤ x.f1) && decide (x.f1 ≤ 36524)) && (decide (0 ≤ x.f2) && decide (x.f2 ≤ 36524)) && (decide (1 ≤ x.f3) && decide (x.f3 ≤ 1000000000)) && accB x.f4 && accB x.f5 && (x.f4.toList != x.f5.toList)
def smallE (x : S24) : Bool := small x.f4 && small x.f5
/-- The last entry with a number. -/
def idF (l : List S24) (j : Int) : Option S24 := l.reverse.find? fun x => x.f0 == j
/-- How many different numbers the first i entries have. -/
def cntN (l : List S24) : Nat → Nat
  | 0 => 0
  | i + 1 => if (idF (l.take i) (rd_T24 l i).f0).isSome then cntN l i else cntN l i + 1
def validL (l : List S24) : Bool := decide (l.length ≤ 4000) && l.all validE && decide ((l.map S24.f0).Nodup)
def encE (x : S24) : Value := .agg #[.int .i64 x.f0, .int .i64 x.f1, .int .i64 x.f2, .int .i64 x.f3, .string x.f4, .string x.f5]

theorem rd_get {l : List S24} {i : Nat} (h : i < l.length) : rd_T24 l (i : Int) = l[i] := by
  unfold rd_T24
  rw [Int.toNat_natCast, List.getD_eq_getElem?_getD, List.getElem?_eq_getElem h]
  rfl
theorem take_snoc {l : List S24} {i : Nat} (h : i < l.length) : l.take (i + 1) = l.take i ++ [rd_T24 l (i : Int)] := by
  rw [rd_get h, List.take_succ_eq_append_getElem h]
theorem idF_nil : idF [] = fun _ => none := rfl
theorem idF_snoc (l : List S24) (x : S24) : idF (l ++ [x]) = fun j => if j = x.f0 then some x else idF l j := by
  funext j
  unfold idF
  rw [List.reverse_append, List.reverse_singleton, List.singleton_append, List.find?_cons]
  by_cases h : j = x.f0
  · subst h; simp
  · have : (x.f0 == j) = false := beq_eq_false_iff_ne.2 (fun e => h e.symm)
    rw [this, if_neg h]
theorem idF_isSome (l : List S24) (j : Int) : (idF l j).isSome = true ↔ j ∈ l.map S24.f0 := by
  unfold idF
  rw [List.find?_isSome, List.mem_map]
  constructor
  · rintro ⟨x, hx, h⟩; exact ⟨x, List.mem_reverse.1 hx, by simpa using h⟩
  · rintro ⟨x, hx, h⟩; exact ⟨x, List.mem_reverse.2 hx, by simpa using h⟩
theorem idF_spec {l : List S24} {j : Int} {x : S24} (h : idF l j = some x) : x ∈ l ∧ x.f0 = j := by
  unfold idF at h
  exact ⟨List.mem_reverse.1 (List.mem_of_find?_eq_some h), by simpa using List.find?_some h⟩
theorem cntN_le (l : List S24) : ∀ i, cntN l i ≤ i
  | 0 => Nat.le_refl _
  | i + 1 => by
    have := cntN_le l i
    unfold cntN; split <;> omega
theorem cntN_eq (l : List S24) : ∀ i, i ≤ l.length → (cntN l i = i ↔ ((l.take i).map S24.f0).Nodup)
  | 0, _ => by simp [cntN]
  | i + 1, hi => by
    have ih := cntN_eq l i (by omega)
    have hle := cntN_le l i
    have hlt : i < l.length := by omega
    rw [take_snoc hlt, List.map_append, List.map_singleton, List.nodup_append]
    have hmem := idF_isSome (l.take i) (rd_T24 l (i : Int)).f0
    unfold cntN
    by_cases hs : (idF (l.take i) (rd_T24 l (i : Int)).f0).isSome = true
    · rw [if_pos hs]
      constructor
      · intro h; omega
      · rintro ⟨_, _, h3⟩
        exact absurd rfl (h3 _ (hmem.1 hs) _ (List.mem_singleton.2 rfl))
    · rw [if_neg hs]
      constructor
      · intro h
        refine ⟨ih.1 (by omega), by simp, ?_⟩
        intro a ha b hb e
        rw [List.mem_singleton.1 hb] at e
        exact hs (hmem.2 (e ▸ ha))
      · rintro ⟨h1, _⟩
        have := ih.2 h1
        omega
theorem validL_end {l : List S24} (h : l.length ≤ 4000) (hv : ∀ j, j < l.length → validE (rd_T24 l (j : Int)) = true) : validL l = (cntN l l.length == l.length) := by
  unfold validL
  have h1 : l.all validE = true := by
    rw [List.all_eq_true]
    intro x hx
    obtain ⟨j, hj, rfl⟩ := List.getElem_of_mem hx
    rw [← rd_get hj]; exact hv j hj
  have h2 := cntN_eq l l.length (Nat.le_refl _)
  rw [List.take_length] at h2
  rw [h1, decide_eq_true h, Bool.true_and, Bool.true_and, Bool.eq_iff_iff, decide_eq_true_eq, beq_iff_eq]
  exact h2.symm
theorem validL_bad {l : List S24} {j : Nat} (hj : j < l.length) (h : validE (rd_T24 l (j : Int)) = false) : validL l = false := by
  unfold validL
  have : l.all validE = false := by
    rw [List.all_eq_false]
    exact ⟨l[j], List.getElem_mem hj, by rw [← rd_get hj, h]; decide⟩
  rw [this, Bool.and_false, Bool.false_and]
theorem validL_long {l : List S24} (h : 4000 < l.length) : validL l = false := by
  unfold validL
  rw [decide_eq_false (show ¬ l.length ≤ 4000 by omega), Bool.false_and, Bool.false_and]
theorem small_rd {l : List S24} (hs : l.all smallE = true) {j : Nat} (hj : j < l.length) : smallE (rd_T24 l (j : Int)) = true := by
  rw [rd_get hj]; exact List.all_eq_true.1 hs _ (List.getElem_mem hj)
theorem validE_id {x : S24} (h : validE x = true) : 1 ≤ x.f0 ∧ x.f0 ≤ 1000000 := by
  unfold validE at h
  simp only [Bool.and_eq_true, decide_eq_true_eq] at h
  exact h.1.1.1.1.1.1

/-- What post returns for a ledger. -/
def postF (l : List S24) (x : S24) : List S24 × Int := if l.length = 4000 then ([], 2) else if (idF l x.f0).isSome = true then ([], 5) else (l ++ [x], 0)

def postL (l : List S24) (x : S24) : List S24 × Int := if (validL l && validE x) = true then postF l x else ([], 1)
/-- What Reverse returns. -/
def revL (l : List S24) (id by_ day known : Int) : List S24 × Int :=
  if (validL l && (decide (1 ≤ by_) && decide (by_ ≤ 1000000)) && (decide (0 ≤ day) && decide (day ≤ 36524)) && (decide (0 ≤ known) && decide (known ≤ 36524))) = true then
    match idF l id with
    | none => ([], 4)
    | some x => postF l ⟨by_, day, known, x.f3, x.f5, x.f4⟩
  else ([], 1)
theorem validL_len {l : List S24} (h : validL l = true) : l.length ≤ 4000 := by
  unfold validL at h
  simp only [Bool.and_eq_true, decide_eq_true_eq] at h
  exact h.1.1

/-- By how much an entry changes a balance. -/
def amt (x : S24) (acc : ByteArray) (day known : Int) : Int :=
  if day < x.f1 ∨ known < x.f2 then 0 else if (x.f4.toList == acc.toList) = true then x.f3 else if (x.f5.toList == acc.toList) = true then -x.f3 else 0
def balF (acc : ByteArray) (day known : Int) : List S24 → Int
  | [] => 0
  | x :: l => amt x acc day known + balF acc day known l
theorem balF_append (acc : ByteArray) (day known : Int) (l m : List S24) : balF acc day known (l ++ m) = balF acc day known l + balF acc day known m := by
  induction l with
  | nil => simp [balF]
  | cons x l ih => simp only [List.cons_append, balF, ih]; omega
theorem validE_cents {x : S24} (h : validE x = true) : 1 ≤ x.f3 ∧ x.f3 ≤ 1000000000 := by
  unfold validE at h
  simp only [Bool.and_eq_true, decide_eq_true_eq] at h
  exact h.1.1.1.2
theorem amt_bound {x : S24} (h : validE x = true) (acc : ByteArray) (day known : Int) : -1000000000 ≤ amt x acc day known ∧ amt x acc day known ≤ 1000000000 := by
  have := validE_cents h
  unfold amt
  split
  · omega
  · split
    · omega
    · split <;> omega
theorem balF_bound {l : List S24} (h : ∀ x ∈ l, validE x = true) (acc : ByteArray) (day known : Int) : -((l.length : Int) * 1000000000) ≤ balF acc day known l ∧ balF acc day known l ≤ (l.length : Int) * 1000000000 := by
  induction l with
  | nil => simp [balF]
  | cons x l ih =>
    have h1 := amt_bound (h x (by simp)) acc day known
    have h2 := ih (fun y hy => h y (by simp [hy]))
    simp only [balF, List.length_cons]
    omega
/-- What Balance returns. -/
def balL (l : List S24) (acc : ByteArray) (day known : Int) : Int × Int :=
  if (validL l && accB acc && (decide (0 ≤ day) && decide (day ≤ 36524)) && (decide (0 ≤ known) && decide (known ≤ 36524))) = true then
    if (decide (-1000000000 ≤ balF acc day known l) && decide (balF acc day known l ≤ 1000000000)) = true then (balF acc day known l, 0) else (0, 3)
  else (0, 1)
theorem validL_all {l : List S24} (h : validL l = true) : ∀ x ∈ l, validE x = true := by
  unfold validL at h
  simp only [Bool.and_eq_true, decide_eq_true_eq] at h
  exact List.all_eq_true.1 h.1.2

end Go.Proofs.Ytnheelncgpgkiaa.P
