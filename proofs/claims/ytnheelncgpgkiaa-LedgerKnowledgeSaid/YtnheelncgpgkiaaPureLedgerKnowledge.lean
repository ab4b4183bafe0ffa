/- P33.5, the plain law: without the entries that become known later, or are of later days, every account has the same balance. -/
import Derived.Test.YtnheelncgpgkiaaPureBase
import Derived.Test.YtnheelncgpgkiaaPXcohousinglaw33LedgerKnowledge
namespace Go.Proofs.Ytnheelncgpgkiaa.P
open Go.RowKit Go.Proofs.YtnheelncgpgkiaaW.PrintWords Go.Proofs.Ytnheelncgpgkiaa.M
set_option linter.unusedVariables false

def ownP (day known : Int) (x : S24) : Bool := decide (x.f2 ≤ known) && decide (x.f1 ≤ day)
theorem balF_own (s : ByteArray) (day known : Int) : ∀ l : List S24, balF s day known (l.filter (ownP day known)) = balF s day known l
  | [] => rfl
  | x :: l => by
    have ih := balF_own s day known l
    rw [List.filter_cons]
    by_cases h : ownP day known x = true
    · rw [if_pos h]; simp only [balF, ih]
    · rw [if_neg h, ih]
      simp only [balF]
      unfold ownP at h
      simp only [Bool.and_eq_true, decide_eq_true_eq] at h
      rw [amt_eq, if_pos (by omega)]; omega
theorem validL_filter {l : List S24} (p : S24 → Bool) (h : validL l = true) : validL (l.filter p) = true := by
  unfold validL at h ⊢
  simp only [Bool.and_eq_true, decide_eq_true_eq] at h ⊢
  obtain ⟨⟨h1, h2⟩, h3⟩ := h
  refine ⟨⟨Nat.le_trans (List.length_filter_le _ _) h1, List.all_eq_true.2 fun x hx => List.all_eq_true.1 h2 x (List.mem_filter.1 hx).1⟩, ?_⟩
  exact h3.sublist (List.filter_sublist.map _)
theorem balL_own {l : List S24} (h : validL l = true) (s : ByteArray) (day known : Int) : balL (l.filter (ownP day known)) s day known = balL l s day known := by
  unfold balL
  rw [balF_own, validL_filter _ h, h]
theorem namesOf_snoc {l : List S24} {i : Nat} (h : i < l.length) : namesOf (l.take (i + 1)) = namesOf (l.take i) ++ [(rd_T24 l (i : Int)).f4, (rd_T24 l (i : Int)).f5] := by
  unfold namesOf
  rw [take_snoc h, List.flatMap_append]; simp
theorem len_namesOf (l : List S24) : (namesOf l).length = 2 * l.length := by
  unfold namesOf
  induction l with
  | nil => rfl
  | cons x l ih => rw [List.flatMap_cons, List.length_append, ih]; simp; omega

theorem know_l2 (l own : List S24) (hs : l.all smallE = true) (hs' : own.all smallE = true) (day known : Int) (hb : ∀ s, balL own s day known = balL l s day known) (ns : List ByteArray) (hns : ∀ s ∈ ns, small s = true) (hl : ns.length ≤ 1000000) :
    ∀ n i : Nat, i + n = ns.length → Ev (fun k => cohousinglaw33_LedgerKnowledge.l2 k l day known true own ns (ns.length : Int) (i : Int)) true := by
  intro n
  induction n with
  | zero =>
    intro i hi
    exact Ev.step (fun k => by rw [cohousinglaw33_LedgerKnowledge.l2]) (evNeg (by omega) (Ev.now _))
  | succ n ih =>
    intro i hi
    have hlt : i < ns.length := by omega
    refine Ev.step (fun k => by rw [cohousinglaw33_LedgerKnowledge.l2]) (evPos (by omega) (evPos (by omega) (evPos (by omega) ?_)))
    rw [rdOf_get _ hlt]
    have hsm := hns _ (List.getElem_mem hlt)
    refine evSome (balance_f hs hsm day known) (evSome (balance_f hs' hsm day known) ?_)
    rw [hb]
    refine evPos rfl (evPos rfl ?_)
    rw [wrap_succ hlt (by omega)]
    exact ih (i + 1) (by omega)
theorem know_l1 (l own : List S24) (acc : ByteArray) (hs : l.all smallE = true) (ha : small acc = true) (hs' : own.all smallE = true) (day known : Int) (hb : ∀ s, balL own s day known = balL l s day known) (hl : l.length ≤ 4000) :
    ∀ n i : Nat, i + n = l.length → Ev (fun k => cohousinglaw33_LedgerKnowledge.l1 k l day known true own (acc :: namesOf (l.take i)) l (l.length : Int) (i : Int)) true := by
  intro n
  induction n with
  | zero =>
    intro i hi
    refine Ev.step (fun k => by rw [cohousinglaw33_LedgerKnowledge.l1]) (evNeg (by omega) ?_)
    rw [List.take_of_length_le (by omega)]
    refine know_l2 l own hs hs' day known hb (acc :: namesOf l) (fun s h => ?_) (by have := len_namesOf l; simp only [List.length_cons]; omega) (acc :: namesOf l).length 0 (by omega)
    rcases List.mem_cons.1 h with rfl | h
    · exact ha
    · unfold namesOf at h
      obtain ⟨y, hy, h⟩ := List.mem_flatMap.1 h
      have h2 := List.all_eq_true.1 hs y hy
      unfold smallE at h2
      rw [Bool.and_eq_true] at h2
      simp at h
      rcases h with rfl | rfl
      · exact h2.1
      · exact h2.2
  | succ n ih =>
    intro i hi
    have hlt : i < l.length := by omega
    refine Ev.step (fun k => by rw [cohousinglaw33_LedgerKnowledge.l1]) (evPos (by omega) (evPos (by omega) (evPos (by omega) ?_)))
    have h1 := len_namesOf (l.take i)
    rw [List.length_take] at h1
    refine evSome rfl (evPos (by simp only [List.length_cons, List.length_nil]; omega) ?_)
    rw [wrap_succ hlt (by omega)]
    have := ih (i + 1) (by omega)
    rw [namesOf_snoc hlt] at this
    exact this
theorem know_l0 (l : List S24) (acc : ByteArray) (hs : l.all smallE = true) (ha : small acc = true) (day known : Int) (hv : validL l = true) :
    ∀ n i : Nat, i + n = l.length → Ev (fun k => cohousinglaw33_LedgerKnowledge.l0 k l acc day known true ((l.take i).filter (ownP day known)) l (l.length : Int) (i : Int)) true := by
  have hl := validL_len hv
  intro n
  induction n with
  | zero =>
    intro i hi
    refine Ev.step (fun k => by rw [cohousinglaw33_LedgerKnowledge.l0]) (evNeg (by omega) ?_)
    rw [List.take_of_length_le (by omega)]
    refine know_l1 l (l.filter (ownP day known)) acc hs ha ?_ day known (fun s => balL_own hv s day known) hl l.length 0 (by omega)
    exact List.all_eq_true.2 fun x hx => List.all_eq_true.1 hs x (List.mem_filter.1 hx).1
  | succ n ih =>
    intro i hi
    have hlt : i < l.length := by omega
    refine Ev.step (fun k => by rw [cohousinglaw33_LedgerKnowledge.l0]) (evPos (by omega) (evPos (by omega) (evPos (by omega) ?_)))
    have next := ih (i + 1) (by omega)
    have hlen : ((l.take i).filter (ownP day known)).length ≤ i := Nat.le_trans (List.length_filter_le _ _) (by rw [List.length_take]; omega)
    rw [take_snoc hlt, List.filter_append, List.filter_cons] at next
    rw [wrap_succ hlt (by omega)]
    refine evIte (fun h1 => evIte (fun h2 => evPos (by omega) ?_) (fun h2 => ?_)) (fun h1 => ?_)
    · rw [if_pos (by unfold ownP; rw [decide_eq_true h1, decide_eq_true h2]; rfl), List.filter_nil] at next
      exact next
    · rw [if_neg (by unfold ownP; rw [decide_eq_false h2, Bool.and_false]; decide), List.filter_nil, List.append_nil] at next
      exact next
    · rw [if_neg (by unfold ownP; rw [decide_eq_false h1, Bool.false_and]; decide), List.filter_nil, List.append_nil] at next
      exact next

theorem LedgerKnowledge_pure (l : List S24) (acc : ByteArray) (day known : Int) (wl : l.length ≤ maxLen ∧ ∀ x ∈ l, wfE x) (wa : acc.size ≤ maxLen) (w3 : (Lit.int .i64 day).wf = true) (w4 : (Lit.int .i64 known).wf = true) :
    ∃ k, cohousinglaw33_LedgerKnowledge.f k l acc day known = some true := by
  have hs := smallL_of wl.2
  have ha := small_of wa
  have hl : l.length ≤ 9223372036854775807 := by have := wl.1; simp only [maxLen] at this; omega
  refine Ev.rounds (g := fun k => cohousinglaw33_LedgerKnowledge.f k l acc day known) ?_
  refine evSome (show cohousinglaw33_head.f = some true from rfl) ?_
  refine Ev.bind (usable_ev l hl day known) (evIte (fun hu => ?_) (fun hu => Ev.now _))
  simp only [Bool.and_eq_true] at hu
  obtain ⟨⟨⟨_, hv⟩, _⟩, _⟩ := hu
  exact know_l0 l acc hs ha day known hv l.length 0 (by omega)
end Go.Proofs.Ytnheelncgpgkiaa.P
