/- What the program's functions answer at lists whose sizes are within the types' bounds. -/
import Derived.Test.YtnheelncgpgkiaaRef33b
import Derived.Test.YtnheelncgpgkiaaOpenS
import Derived.Test.YtnheelncgpgkiaaGHead
namespace Go.Proofs.Ytnheelncgpgkiaa.P
open Go.RowKit Go.Proofs.YtnheelncgpgkiaaW.PrintWords Go.Proofs.Ytnheelncgpgkiaa.M
set_option linter.unusedVariables false

theorem small_of {s : ByteArray} (h : s.size ≤ maxLen) : small s = true := by unfold small; exact decide_eq_true (by simp only [maxLen] at h; omega)
theorem smallE_of {x : S24} (h : wfE x) : smallE x = true := by
  obtain ⟨_, _, _, _, h4, h5⟩ := h
  unfold smallE; rw [small_of h4, small_of h5]; rfl
theorem smallL_of {l : List S24} (h : ∀ x ∈ l, wfE x) : l.all smallE = true := List.all_eq_true.2 fun x hx => smallE_of (h x hx)
theorem valid_f {l : List S24} (hs : l.all smallE = true) : ledger_Valid.f l = some (validL l) := by rw [ledger_Valid.f, if_pos hs]
theorem balance_f {l : List S24} (hs : l.all smallE = true) {a : ByteArray} (ha : small a = true) (day known : Int) : ledger_Balance.f l a day known = some (balL l a day known) := by
  rw [ledger_Balance.f, if_pos (by rw [hs, ha]; rfl)]
theorem accounts_f {l : List S24} (hs : l.all smallE = true) : ledger_Accounts.f l = some (accL l) := by rw [ledger_Accounts.f, if_pos hs]; rfl

/-- The sum over names of one entry's part. -/
def sumN (l : List S24) (day known : Int) : List ByteArray → Int
  | [] => 0
  | s :: ns => balF s day known l + sumN l day known ns
theorem sumN_append (l : List S24) (day known : Int) (a b : List ByteArray) : sumN l day known (a ++ b) = sumN l day known a + sumN l day known b := by
  induction a with
  | nil => simp [sumN]
  | cons x a ih => simp only [List.cons_append, sumN, ih]; omega
theorem sumN_nil (day known : Int) (ns : List ByteArray) : sumN [] day known ns = 0 := by
  induction ns with
  | nil => rfl
  | cons s ns ih => simp only [sumN, ih, balF]; rfl
/-- One entry's parts over all names. -/
def amtN (x : S24) (day known : Int) : List ByteArray → Int
  | [] => 0
  | s :: ns => amt x s day known + amtN x day known ns
theorem sumN_cons (x : S24) (l : List S24) (day known : Int) (ns : List ByteArray) : sumN (x :: l) day known ns = amtN x day known ns + sumN l day known ns := by
  induction ns with
  | nil => rfl
  | cons s ns ih => simp only [sumN, amtN, balF, ih]; omega
theorem amt_eq (x : S24) (s : ByteArray) (day known : Int) : amt x s day known = if day < x.f1 ∨ known < x.f2 then 0 else if x.f4 = s then x.f3 else if x.f5 = s then -x.f3 else 0 := by
  unfold amt
  by_cases h : day < x.f1 ∨ known < x.f2
  · rw [if_pos h, if_pos h]
  · rw [if_neg h, if_neg h, eq_bytes, eq_bytes]
    simp only [decide_eq_true_eq]
theorem amtN_none (x : S24) (day known : Int) (ns : List ByteArray) (h4 : x.f4 ∉ ns) (h5 : x.f5 ∉ ns) : amtN x day known ns = 0 := by
  induction ns with
  | nil => rfl
  | cons s ns ih =>
    simp only [List.mem_cons, not_or] at h4 h5
    simp only [amtN]
    rw [ih h4.2 h5.2, amt_eq, if_neg h4.1, if_neg h5.1]
    split <;> rfl
theorem amtN_five (x : S24) (day known : Int) (hne : x.f4 ≠ x.f5) (ns : List ByteArray) (hnd : ns.Nodup) (h4 : x.f4 ∉ ns) (h5 : x.f5 ∈ ns) : amtN x day known ns = if day < x.f1 ∨ known < x.f2 then 0 else -x.f3 := by
  induction ns with
  | nil => cases h5
  | cons s ns ih =>
    simp only [List.mem_cons, not_or] at h4
    obtain ⟨hn1, hn2⟩ := List.nodup_cons.1 hnd
    simp only [amtN]
    rw [amt_eq, if_neg h4.1]
    by_cases hs : x.f5 = s
    · rw [amtN_none x day known ns h4.2 (by rw [hs]; exact hn1), if_pos hs]; split <;> omega
    · rw [ih hn2 h4.2 (by rcases List.mem_cons.1 h5 with h | h; exact absurd h hs; exact h), if_neg hs]; split <;> omega
theorem amtN_four (x : S24) (day known : Int) (hne : x.f4 ≠ x.f5) (ns : List ByteArray) (hnd : ns.Nodup) (h4 : x.f4 ∈ ns) (h5 : x.f5 ∉ ns) : amtN x day known ns = if day < x.f1 ∨ known < x.f2 then 0 else x.f3 := by
  induction ns with
  | nil => cases h4
  | cons s ns ih =>
    simp only [List.mem_cons, not_or] at h5
    obtain ⟨hn1, hn2⟩ := List.nodup_cons.1 hnd
    simp only [amtN]
    rw [amt_eq, if_neg h5.1]
    by_cases hs : x.f4 = s
    · rw [amtN_none x day known ns (by rw [hs]; exact hn1) h5.2, if_pos hs]; split <;> omega
    · rw [ih hn2 (by rcases List.mem_cons.1 h4 with h | h; exact absurd h hs; exact h) h5.2, if_neg hs]; split <;> omega
theorem amtN_zero (x : S24) (day known : Int) (hne : x.f4 ≠ x.f5) (ns : List ByteArray) (hnd : ns.Nodup) (h4 : x.f4 ∈ ns) (h5 : x.f5 ∈ ns) : amtN x day known ns = 0 := by
  induction ns with
  | nil => rfl
  | cons s ns ih =>
    obtain ⟨hn1, hn2⟩ := List.nodup_cons.1 hnd
    simp only [amtN]
    rw [amt_eq]
    by_cases hs : x.f4 = s
    · have h5' : x.f5 ∈ ns := by rcases List.mem_cons.1 h5 with h | h; exact absurd (hs.trans h.symm) hne; exact h
      rw [if_pos hs, amtN_five x day known hne ns hn2 (by rw [hs]; exact hn1) h5']
      split <;> omega
    · have h4' : x.f4 ∈ ns := by rcases List.mem_cons.1 h4 with h | h; exact absurd h hs; exact h
      rw [if_neg hs]
      by_cases hs5 : x.f5 = s
      · rw [if_pos hs5, amtN_four x day known hne ns hn2 h4' (by rw [hs5]; exact hn1)]
        split <;> omega
      · rw [if_neg hs5, ih hn2 h4' (by rcases List.mem_cons.1 h5 with h | h; exact absurd h hs5; exact h)]
        split <;> rfl
theorem validE_ne {x : S24} (h : validE x = true) : x.f4 ≠ x.f5 := by
  unfold validE at h
  simp only [Bool.and_eq_true] at h
  intro e
  have := h.2
  rw [e] at this; simp at this
theorem sumN_zero (day known : Int) (ns : List ByteArray) (hnd : ns.Nodup) : ∀ (l : List S24), (∀ x ∈ l, validE x = true ∧ x.f4 ∈ ns ∧ x.f5 ∈ ns) → sumN l day known ns = 0
  | [], _ => sumN_nil day known ns
  | x :: l, h => by
    obtain ⟨h1, h2, h3⟩ := h x (by simp)
    rw [sumN_cons, amtN_zero x day known (validE_ne h1) ns hnd h2 h3, sumN_zero day known ns hnd l (fun y hy => h y (by simp [hy]))]; rfl
theorem accB_names {l : List S24} (hv : validL l = true) {s : ByteArray} (h : s ∈ namesL l) : accB s = true := by
  obtain ⟨y, hy, h⟩ := (mem_namesL l s).1 h
  have := validL_all hv y hy
  unfold validE at this
  simp only [Bool.and_eq_true] at this
  rcases h with rfl | rfl
  · exact this.1.1.2
  · exact this.1.2
theorem small_acc {s : ByteArray} (h : accB s = true) : small s = true := small_of (by have := accB_size h; simp only [maxLen]; omega)

end Go.Proofs.Ytnheelncgpgkiaa.P
