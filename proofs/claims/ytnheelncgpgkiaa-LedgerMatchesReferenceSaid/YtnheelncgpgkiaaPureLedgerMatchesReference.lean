/- P33.1, the plain law: what the printed law computes is true at every input. -/
import Derived.Test.YtnheelncgpgkiaaPureBase
import Derived.Test.YtnheelncgpgkiaaPXcohousinglaw33LedgerMatchesReference
namespace Go.Proofs.Ytnheelncgpgkiaa.P
open Go.RowKit Go.Proofs.YtnheelncgpgkiaaW.PrintWords Go.Proofs.Ytnheelncgpgkiaa.M
set_option linter.unusedVariables false

theorem LedgerMatchesReference_pure (l : List S24) (x : S24) (acc : ByteArray) (id by_ day known : Int) (wl : l.length ≤ maxLen ∧ ∀ x ∈ l, wfE x) (wx : wfE x) (wa : acc.size ≤ maxLen)
    (w1 : (Lit.int .i64 id).wf = true) (w2 : (Lit.int .i64 by_).wf = true) (w3 : (Lit.int .i64 day).wf = true) (w4 : (Lit.int .i64 known).wf = true) :
    ∃ k, cohousinglaw33_LedgerMatchesReference.f k l x.f0 x.f1 x.f2 x.f3 x.f4 x.f5 acc id by_ day known = some true := by
  have hs := smallL_of wl.2
  have ha := small_of wa
  have hl : l.length ≤ 9223372036854775807 := by have := wl.1; simp only [maxLen] at this; omega
  refine Ev.rounds (g := fun k => cohousinglaw33_LedgerMatchesReference.f k l x.f0 x.f1 x.f2 x.f3 x.f4 x.f5 acc id by_ day known) ?_
  refine evSome (show cohousinglaw33_head.f = some true from rfl) ?_
  have out : Ev (fun k => cohousinglaw33_LedgerMatchesReference.j0 k l acc id by_ day known true true x.f0 x.f1 x.f2 x.f3 x.f4 x.f5) true := Ev.step (fun k => by rw [cohousinglaw33_LedgerMatchesReference.j0]) (evPos rfl (Ev.now _))
  refine Ev.bind (few_ev l hl) (evIte (fun hf => ?_) (fun hf => out))
  refine Ev.bind (few_ev _ (by simp)) (evIte (fun hf' => ?_) (fun hf' => out))
  by_cases h100 : ((acc.size : Nat) : Int) > 100
  · rw [decide_eq_true h100]; exact out
  rw [decide_eq_false h100]
  have hlen : l.length ≤ 60 := by
    unfold fewL at hf
    simp only [Bool.and_eq_true, decide_eq_true_eq] at hf
    exact hf.1
  have hp : ledger_Post.f l x.f0 x.f1 x.f2 x.f3 x.f4 x.f5 = some (postL l x) := by
    rw [ledger_Post.f, if_pos (by rw [hs, smallE_of wx]; rfl)]
  have hr : ledger_Reverse.f l id by_ day known = some (revL l id by_ day known) := by
    rw [ledger_Reverse.f, if_pos ⟨hs, w1⟩]
  have lp : (postL l x).1.length ≤ 9223372036854775807 := by
    unfold postL postF
    split
    · split
      · simp
      · split <;> simp; omega
    · simp
  have lr : (revL l id by_ day known).1.length ≤ 9223372036854775807 := by
    unfold revL postF
    split
    · split
      · simp
      · split
        · simp
        · split <;> simp; omega
    · simp
  have la : (accL l).1.length ≤ 9223372036854775807 := by
    unfold accL
    have := len_namesL l
    split
    · show (namesL l).length ≤ _; omega
    · simp
  refine Ev.step (fun k => by rw [cohousinglaw33_LedgerMatchesReference.j0]) (evNeg (by decide) ?_)
  refine evSome hp (Ev.bind (post_ev l x) (evPos rfl ?_))
  refine evSome (valid_f hs) (Ev.bind (valid_ev l) (evPos (by simp) (Ev.bind (same_ev _ lp) (evPos rfl ?_))))
  refine Ev.step (fun k => by rw [cohousinglaw33_LedgerMatchesReference.j1]) ?_
  refine evSome (balance_f hs ha day known) (Ev.bind (balance_ev l acc day known) (evPos (by simp) (evPos rfl ?_)))
  refine Ev.step (fun k => by rw [cohousinglaw33_LedgerMatchesReference.j2]) ?_
  refine evSome (accounts_f hs) (Ev.bind (accounts_ev l) (evPos (by simp) (Ev.bind (sameNames_ev _ la) (evPos rfl ?_))))
  refine evSome hr (Ev.bind (reverse_ev l id by_ day known) (evPos rfl (Ev.bind (same_ev _ lr) (evPos rfl (evEq (Ev.now _) ?_)))))
  simp
end Go.Proofs.Ytnheelncgpgkiaa.P
