/- LotteryMatchesReference: all functions return what the reference returns: the law returns true, whatever the secrets, pledges, shares and numbers. -/
import Derived.Test.YtfkeelccnomjkaaDoorRPure2
import Derived.Test.YtfkeelccnomjkaaDoorGHead
import Derived.Test.YtfkeelccnomjkaaDoorPXcohousinglaw22LotteryMatchesReference
import Derived.Test.YtfkeelccnomjkaaDoorOpenSL
namespace Go.Proofs.YtfkeelccnomjkaaDoor.P
open Go.RowKit Go.Proofs.YtfkeelccnomjkaaDoorW.PrintWords Go.Proofs.YtfkeelccnomjkaaDoorW.PrintLast Go.Proofs.YtfkeelccnomjkaaDoorW.PrintMore Go.Proofs.YtfkeelccnomjkaaDoor.M
set_option linter.unusedVariables false
set_option linter.unusedSimpArgs false
theorem drawF_len (l : List S31) (need : Int) (op : List S23) (h : l.length ≤ 1000) : (drawF l need op).2.1.length ≤ 1000 := by
  unfold drawF
  split
  · split
    · exact Nat.zero_le _
    · show (cheatsL l op need.toNat).length ≤ 1000
      unfold cheatsL
      rw [List.length_map]
      have := List.length_filter_le (cheatB op need.toNat) l
      omega
  · exact Nat.zero_le _
theorem lotsGo_len : ∀ (i : Nat) (x : Int) (l : List Int), (lotsGo i x l).length = l.length
  | 0, _, _ => rfl
  | i + 1, x, l => by
    unfold lotsGo
    rw [lotsGo_len i, swapL_len]
theorem lotsF_len (seed n : Int) : (lotsF seed n).1.length ≤ 1000 := by
  unfold lotsF
  split
  · rename_i h
    rw [Bool.and_eq_true] at h
    have h2 := h.2
    unfold inB at h2
    simp only [Bool.and_eq_true, decide_eq_true_eq] at h2
    show (lotsGo _ _ _).length ≤ 1000
    rw [lotsGo_len, firstN_len]
    omega
  · exact Nat.zero_le _
theorem dealF_len (who v salt : Int) (coefs : List Int) (n : Int) : (dealF who v salt coefs n).2.2.1.length ≤ 1000 := by
  unfold dealF
  split
  · rename_i h
    unfold dealOk at h
    simp only [Bool.and_eq_true] at h
    have h2 := h.1.1.1.1
    unfold inB at h2
    simp only [Bool.and_eq_true, decide_eq_true_eq] at h2
    show (dealSh _ _ _).length ≤ 1000
    rw [dealSh_len]
    omega
  · exact Nat.zero_le _
theorem LotteryMatchesReference_pure (s : S23) (hs : okI s.f0 ∧ okI s.f1 ∧ okI s.f2) (coefs : List Int) (n : Int) (sh : List S47) (l : List S31) (need : Int) (op : List S23) (ho : okOp op) : ∃ k, cohousinglaw22_LotteryMatchesReference.f k s.f0 s.f1 s.f2 coefs n sh l need op = some true := by
  refine Ev.rounds (g := fun k => cohousinglaw22_LotteryMatchesReference.f k s.f0 s.f1 s.f2 coefs n sh l need op) ?_
  refine evSome (show cohousinglaw22_head.f = some true from rfl) ?_
  have bad : Ev (fun k => cohousinglaw22_LotteryMatchesReference.j0 k coefs n sh l need op true true s.f0 s.f1 s.f2) true := Ev.step (fun k => by rw [cohousinglaw22_LotteryMatchesReference.j0]) (evPos rfl (Ev.now _))
  refine evIte (fun _ => bad) fun h1 => evIte (fun _ => bad) fun h2 => evIte (fun _ => bad) fun h3 => ?_
  by_cases h4 : (op.length : Int) > 20
  · rw [decide_eq_true h4]; exact bad
  rw [decide_eq_false h4]
  refine Ev.step (fun k => by rw [cohousinglaw22_LotteryMatchesReference.j0]) (evNeg (by decide) ?_)
  refine Ev.bind (deal_ev hs.1 hs.2.1 hs.2.2) (Ev.bind (rdeal_ev (by omega)) ?_)
  refine evPos rfl (Ev.bind (rsame_ev _ _ _ (dealF_len _ _ _ _ _)) (evPos rfl ?_))
  rw [beq_self_eq_true]
  refine Ev.step (fun k => by rw [cohousinglaw22_LotteryMatchesReference.j1]) ?_
  refine evSome (show lottery_Recover.f sh = some (recF sh) from rfl) (Ev.bind (rrecover_ev (by omega)) ?_)
  refine evPos rfl (evPos rfl ?_)
  rw [beq_self_eq_true]
  refine Ev.step (fun k => by rw [cohousinglaw22_LotteryMatchesReference.j2]) ?_
  refine evSome (lottery_Draw.ok need (show l.length ≤ 1000 by omega) (show op.length ≤ 1000 by omega) ho) (Ev.bind (rdraw_ev (by omega) (by omega)) ?_)
  refine evPos rfl (evPos rfl ?_)
  have e1 := ints_ev (drawF l need op).2.1 (drawF l need op).2.1 (by have := drawF_len l need op (by omega); omega)
  rw [decide_eq_true rfl] at e1
  refine Ev.bind e1 (evPos rfl ?_)
  refine Ev.bind (lots_ev s.f1 n) (Ev.bind (rlots_ev s.f1 n) (evPos rfl ?_))
  have e2 := ints_ev (lotsF s.f1 n).1 (lotsF s.f1 n).1 (by have := lotsF_len s.f1 n; omega)
  rw [decide_eq_true rfl] at e2
  refine Ev.bind e2 (evPos rfl ?_)
  rw [beq_self_eq_true]
  exact Ev.now _
theorem okOp_of {op : List S23} (h : ∀ x ∈ op, wfS23 x) : okOp op := fun s hs => ⟨wf_i64_bd (h s hs).1, wf_i64_bd (h s hs).2.1, wf_i64_bd (h s hs).2.2⟩
theorem LotteryMatchesReference_calls (s : S23) (A1 : Option Addr) (c1 : Nat) (coefs : List Int) (n : Int) (A3 : Option Addr) (c3 : Nat) (sh : List S47) (A4 : Option Addr) (c4 : Nat) (l : List S31) (need : Int) (A6 : Option Addr) (c6 : Nat) (op : List S23) (w : World)
    (hr1 : Kd.C (Kd.int .i64) w A1 coefs.length coefs) (hc1 : coefs.length ≤ c1) (hr3 : Kd.C k47 w A3 sh.length sh) (hc3 : sh.length ≤ c3) (hr4 : Kd.C k31 w A4 l.length l) (hc4 : l.length ≤ c4) (hr6 : Kd.C k23 w A6 op.length op) (hc6 : op.length ≤ c6)
    (w0 : wfS23 s) (w1 : coefs.length ≤ maxLen ∧ ∀ x ∈ coefs, (Lit.int .i64 x).wf = true) (w2 : (Lit.int .i64 n).wf = true) (w3 : sh.length ≤ maxLen ∧ ∀ x ∈ sh, wfS47 x) (w4 : l.length ≤ maxLen ∧ ∀ x ∈ l, wfS31 x) (w5 : (Lit.int .i64 need).wf = true) (w6 : op.length ≤ maxLen ∧ ∀ x ∈ op, wfS23 x) (hg : Gl w) :
    Calls Tryd.prog 3 #[.agg #[.int .i64 s.f0, .int .i64 s.f1, .int .i64 s.f2], .slice A1 coefs.length c1, .int .i64 n, .slice A3 sh.length c3, .slice A4 l.length c4, .int .i64 need, .slice A6 op.length c6] w fun e w' => e = .returned (.bool true) ∧ Below w.heap.size w w' := by
  obtain ⟨k, hk⟩ := LotteryMatchesReference_pure s ⟨wf_i64_bd w0.1, wf_i64_bd w0.2.1, wf_i64_bd w0.2.2⟩ coefs n sh l need op (okOp_of w6.2)
  exact cohousinglaw22_LotteryMatchesReference.calls k s.f0 s.f1 s.f2 A1 c1 coefs n A3 c3 sh A4 c4 l need A6 c6 op true w hr1 hc1 hr3 hc3 hr4 hc4 hr6 hc6 hk hg
end Go.Proofs.YtfkeelccnomjkaaDoor.P
