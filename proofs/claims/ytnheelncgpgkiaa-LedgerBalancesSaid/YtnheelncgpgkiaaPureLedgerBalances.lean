/- P33.2, the plain law: the balances of all accounts add up to 0, unless one is out of its range. -/
import Derived.Test.YtnheelncgpgkiaaPureBase
import Derived.Test.YtnheelncgpgkiaaPXcohousinglaw33LedgerBalances
namespace Go.Proofs.Ytnheelncgpgkiaa.P
open Go.RowKit Go.Proofs.YtnheelncgpgkiaaW.PrintWords Go.Proofs.Ytnheelncgpgkiaa.M
set_option linter.unusedVariables false

theorem balances_loop (l : List S24) (hs : l.all smallE = true) (hv : validL l = true) (day known : Int) (hd : (decide (0 ≤ day) && decide (day ≤ 36524)) = true) (hk : (decide (0 ≤ known) && decide (known ≤ 36524)) = true) :
    ∀ n i : Nat, i + n = (namesL l).length → Ev (fun k => cohousinglaw33_LedgerBalances.l0 k l day known true (sumN l day known ((namesL l).take i)) (namesL l) ((namesL l).length : Int) (i : Int)) true := by
  have hN := len_namesL l
  have hlen := validL_len hv
  intro n
  induction n with
  | zero =>
    intro i hi
    refine Ev.step (fun k => by rw [cohousinglaw33_LedgerBalances.l0]) (evNeg (by omega) (evPos rfl (evEq (Ev.now _) ?_)))
    rw [List.take_of_length_le (by omega), sumN_zero day known _ (ris_namesL l).nodup l (fun x hx => ⟨validL_all hv x hx, (mem_namesL l _).2 ⟨x, hx, .inl rfl⟩, (mem_namesL l _).2 ⟨x, hx, .inr rfl⟩⟩)]
    rfl
  | succ n ih =>
    intro i hi
    have hlt : i < (namesL l).length := by omega
    refine Ev.step (fun k => by rw [cohousinglaw33_LedgerBalances.l0]) (evPos (by omega) (evPos (by omega) (evPos (by omega) ?_)))
    rw [rdOf_get _ hlt]
    have ha := accB_names hv (List.getElem_mem hlt)
    refine evSome (balance_f hs (small_acc ha) day known) ?_
    unfold balL
    rw [hv, ha, hd, hk]
    simp only [Bool.and_self, if_true]
    by_cases hr : (decide (-1000000000 ≤ balF (namesL l)[i] day known l) && decide (balF (namesL l)[i] day known l ≤ 1000000000)) = true
    · rw [if_pos hr]
      refine evPos rfl ?_
      have hB : ∀ j : Nat, -((j : Int) * 4000000000000) ≤ sumN l day known ((namesL l).take j) ∧ sumN l day known ((namesL l).take j) ≤ (j : Int) * 4000000000000 := by
        intro j
        have : ∀ ns : List ByteArray, -((ns.length : Int) * 4000000000000) ≤ sumN l day known ns ∧ sumN l day known ns ≤ (ns.length : Int) * 4000000000000 := by
          intro ns
          induction ns with
          | nil => simp [sumN]
          | cons s ns ih =>
            have := balF_bound (validL_all hv) s day known
            simp only [sumN, List.length_cons]
            omega
        have h1 := this ((namesL l).take j)
        rw [List.length_take] at h1
        omega
      have hb := hB i
      have hsn : sumN l day known ((namesL l).take (i + 1)) = sumN l day known ((namesL l).take i) + balF (namesL l)[i] day known l := by
        rw [List.take_succ_eq_append_getElem hlt, sumN_append]; simp [sumN]
      simp only [Bool.and_eq_true, decide_eq_true_eq] at hr
      rw [wrap_succ hlt (by omega), Go.IntWalk.wrap64_in _ (by omega), ← hsn]
      exact ih (i + 1) (by omega)
    · rw [if_neg hr]
      exact evNeg (by decide) (Ev.now _)

theorem LedgerBalances_pure (l : List S24) (day known : Int) (wl : l.length ≤ maxLen ∧ ∀ x ∈ l, wfE x) (w3 : (Lit.int .i64 day).wf = true) (w4 : (Lit.int .i64 known).wf = true) :
    ∃ k, cohousinglaw33_LedgerBalances.f k l day known = some true := by
  have hs := smallL_of wl.2
  have hl : l.length ≤ 9223372036854775807 := by have := wl.1; simp only [maxLen] at this; omega
  refine Ev.rounds (g := fun k => cohousinglaw33_LedgerBalances.f k l day known) ?_
  refine evSome (show cohousinglaw33_head.f = some true from rfl) ?_
  refine Ev.bind (usable_ev l hl day known) (evIte (fun hu => ?_) (fun hu => Ev.now _))
  simp only [Bool.and_eq_true] at hu
  obtain ⟨⟨⟨_, hv⟩, hd⟩, hk⟩ := hu
  refine evSome (accounts_f hs) ?_
  unfold accL
  rw [if_pos hv]
  exact evPos rfl (balances_loop l hs hv day known (by simpa using hd) (by simpa using hk) (namesL l).length 0 (by omega))
end Go.Proofs.Ytnheelncgpgkiaa.P
