/- LotteryRecovers: enough of the shares that Deal returns recover the value: the law returns true, whatever the secret, the coefficients, the number and the picks. -/
import Derived.Test.YtfkeelccnomjkaaDoorLPure2
import Derived.Test.YtfkeelccnomjkaaDoorGHead
import Derived.Test.YtfkeelccnomjkaaDoorPXcohousinglaw22LotteryRecovers
import Derived.Test.YtfkeelccnomjkaaDoorOpenSL
namespace Go.Proofs.YtfkeelccnomjkaaDoor.P
open Go.RowKit Go.Proofs.YtfkeelccnomjkaaDoorW.PrintWords Go.Proofs.YtfkeelccnomjkaaDoorW.PrintLast Go.Proofs.YtfkeelccnomjkaaDoorW.PrintMore Go.Proofs.YtfkeelccnomjkaaDoor.M
set_option linter.unusedVariables false
set_option linter.unusedSimpArgs false
theorem LotteryRecovers_pure (s : S23) (hs : okI s.f0 ∧ okI s.f1 ∧ okI s.f2) (coefs : List Int) (n : Int) (picks : List Int) : ∃ k, cohousinglaw22_LotteryRecovers.f k s.f0 s.f1 s.f2 coefs n picks = some true := by
  refine Ev.rounds (g := fun k => cohousinglaw22_LotteryRecovers.f k s.f0 s.f1 s.f2 coefs n picks) ?_
  refine evSome (show cohousinglaw22_head.f = some true from rfl) ?_
  refine Ev.bind (deal_ev hs.1 hs.2.1 hs.2.2) ?_
  unfold dealF
  cases hd : dealOk s.f0 s.f1 s.f2 coefs n with
  | false =>
    rw [if_neg (by decide)]
    refine evNeg (by decide) ?_
    refine Ev.step (fun k => by rw [cohousinglaw22_LotteryRecovers.j0]) ?_
    refine evPos rfl (evPos rfl ?_)
    exact evNeg (show ¬ ((1 : Int) = 0) by decide) (Ev.now _)
  | true =>
    rw [if_pos rfl]
    refine evPos rfl ?_
    have h := hd
    unfold dealOk at h
    simp only [Bool.and_eq_true, decide_eq_true_eq] at h
    obtain ⟨⟨⟨⟨h1, h2⟩, h3, h4⟩, h5⟩, h6⟩ := h
    have hn : 1 ≤ n ∧ n ≤ 16 := by unfold inB at h1; simp only [Bool.and_eq_true, decide_eq_true_eq] at h1; exact h1
    by_cases hp : (picks.length : Int) > 16
    · rw [decide_eq_true hp]
      refine Ev.step (fun k => by rw [cohousinglaw22_LotteryRecovers.j0]) ?_
      exact evPos rfl (evPos rfl (evPos rfl (Ev.now _)))
    · rw [decide_eq_false hp]
      refine Ev.step (fun k => by rw [cohousinglaw22_LotteryRecovers.j0]) (evNeg (by decide) ?_)
      have hw : wrap64 ((coefs.length : Int) + 1) = (coefs.length : Int) + 1 := wrap_ok (by omega)
      have hlen := dealSh_len s.f1 coefs n.toNat
      rw [hw]
      have e1 : cohousinglaw22_some.f (dealSh s.f1 coefs n.toNat) ((coefs.length : Int) + 1) picks = some (someL (dealSh s.f1 coefs n.toNat) ((coefs.length : Int) + 1) picks) := by
        unfold cohousinglaw22_some.f; rw [if_pos (by rw [hlen]; omega)]
      refine evSome e1 ?_
      have e2 : lottery_Recover.f (someL (dealSh s.f1 coefs n.toNat) ((coefs.length : Int) + 1) picks) = some (s.f1, 0) := by
        unfold lottery_Recover.f
        rw [rec_some (isR_iff.1 h3) (by omega) (by omega)]
      refine evSome e2 ?_
      refine evPos rfl (evPos rfl (evPos rfl (evPos rfl ?_)))
      refine evEq (Ev.now _) ?_
      show (((dealSh s.f1 coefs n.toNat).length : Int) == n) = true
      rw [hlen]
      rw [beq_iff_eq]
      omega
theorem LotteryRecovers_calls (s : S23) (A1 : Option Addr) (c1 : Nat) (coefs : List Int) (n : Int) (A3 : Option Addr) (c3 : Nat) (picks : List Int) (w : World)
    (hr1 : Kd.C (Kd.int .i64) w A1 coefs.length coefs) (hc1 : coefs.length ≤ c1) (hr3 : Kd.C (Kd.int .i64) w A3 picks.length picks) (hc3 : picks.length ≤ c3)
    (w0 : wfS23 s) (w1 : coefs.length ≤ maxLen ∧ ∀ x ∈ coefs, (Lit.int .i64 x).wf = true) (w2 : (Lit.int .i64 n).wf = true) (w3 : picks.length ≤ maxLen ∧ ∀ x ∈ picks, (Lit.int .i64 x).wf = true) (hg : Gl w) :
    Calls Tryd.prog 4 #[.agg #[.int .i64 s.f0, .int .i64 s.f1, .int .i64 s.f2], .slice A1 coefs.length c1, .int .i64 n, .slice A3 picks.length c3] w fun e w' => e = .returned (.bool true) ∧ Below w.heap.size w w' := by
  obtain ⟨k, hk⟩ := LotteryRecovers_pure s ⟨wf_i64_bd w0.1, wf_i64_bd w0.2.1, wf_i64_bd w0.2.2⟩ coefs n picks
  exact cohousinglaw22_LotteryRecovers.calls k s.f0 s.f1 s.f2 A1 c1 coefs n A3 c3 picks true w hr1 hc1 hr3 hc3 hk hg
end Go.Proofs.YtfkeelccnomjkaaDoor.P
