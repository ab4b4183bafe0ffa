/- What the reference's functions compute: the same as the program's (pledges, secrets, Value, Deal, Draw, Lots, SamePledge). -/
import Derived.Test.YtfkeelccnomjkaaDoorRPure
import Derived.Test.YtfkeelccnomjkaaDoorPR2
import Derived.Test.YtfkeelccnomjkaaDoorPR1
import Derived.Test.YtfkeelccnomjkaaDoorGDraw
namespace Go.Proofs.YtfkeelccnomjkaaDoor.P
open Go.RowKit Go.Proofs.YtfkeelccnomjkaaDoorW.PrintWords Go.Proofs.YtfkeelccnomjkaaDoorW.PrintLast Go.Proofs.YtfkeelccnomjkaaDoorW.PrintMore Go.Proofs.YtfkeelccnomjkaaDoor.M Go.Proofs.YtfkeelccnomjkaaDoor.QF
set_option linter.unusedVariables false
set_option linter.unusedSimpArgs false
/-! ### Pledges, secrets -/
theorem rpledges1_ev {l : List S31} (hn : l.length ≤ 1000) (i : Nat) (hi : i < l.length) (b : Bool) (hp : (rd_T31 l (i : Int)).f2.length = l.length) (hk : Ev (fun k => cohousingref22_pledges.l0 k l ((i + 1 : Nat) : Int)) b) :
    ∀ d m : Nat, d = l.length - m → m ≤ l.length → Ev (fun k => cohousingref22_pledges.l1 k l (i : Int) (m : Int)) (allFrom (okSh (rd_T31 l (i : Int)).f2) m l.length && b) := by
  intro d
  induction d with
  | zero =>
    intro m hd hm
    obtain rfl : m = l.length := by omega
    rw [allFrom_end, Bool.true_and]
    refine Ev.step (fun k => by rw [cohousingref22_pledges.l1]) (evNeg (by omega) ?_)
    rw [wrap_succ hi (by omega)]
    exact hk
  | succ d ih =>
    intro m hd hm
    have hlt : m < l.length := by omega
    have h2 := ih (m + 1) (by omega) (by omega)
    rw [allFrom_step _ hlt]
    have ew : wrap64 ((m : Int) + 1) = (m : Int) + 1 := by rw [wrap_ok (by omega)]
    refine Ev.step (fun k => by rw [cohousingref22_pledges.l1]) (evPos (by omega) (evPos (by omega) (evPos (by omega) (evPos (by omega) (evPos (by rw [hp]; omega) ?_)))))
    by_cases h1 : (rd_T47 (rd_T31 l (i : Int)).f2 (m : Int)).f0 = (m : Int) + 1
    · refine evPos (by rw [ew]; exact h1) (evSome (rres_f _) ?_)
      cases hr : isR (rd_T47 (rd_T31 l (i : Int)).f2 (m : Int)).f1 with
      | true =>
        have e : okSh (rd_T31 l (i : Int)).f2 m = true := by unfold okSh; rw [decide_eq_true h1, hr]; rfl
        rw [e, Bool.true_and]
        refine evPos rfl ?_
        rw [wrap_succ hlt (by omega)]
        exact h2
      | false =>
        have e : okSh (rd_T31 l (i : Int)).f2 m = false := by unfold okSh; rw [hr, Bool.and_false]
        rw [e, Bool.false_and, Bool.false_and]
        exact evNeg (by decide) (Ev.now _)
    · have e : okSh (rd_T31 l (i : Int)).f2 m = false := by unfold okSh; rw [decide_eq_false h1, Bool.false_and]
      rw [e, Bool.false_and, Bool.false_and]
      exact evNeg (by rw [ew]; exact h1) (Ev.now _)
theorem rpledges_ev {l : List S31} (hn : l.length ≤ 1000) : Ev (fun k => cohousingref22_pledges.f k l) (pledgesB l) := by
  refine evSome (rin_f _ _ _) ?_
  unfold pledgesB
  cases hb : inB (l.length : Int) 1 16 with
  | false => rw [Bool.and_false]; exact evNeg (by decide) (Ev.now _)
  | true =>
    rw [Bool.and_true]
    refine evPos rfl ?_
    have h : ∀ d i : Nat, d = l.length - i → i ≤ l.length → Ev (fun k => cohousingref22_pledges.l0 k l (i : Int)) (allFrom (fun i => okPl l.length (rd_T31 l (i : Int)) i) i l.length) := by
      intro d
      induction d with
      | zero =>
        intro i hd hi
        obtain rfl : i = l.length := by omega
        rw [allFrom_end]
        exact Ev.step (fun k => by rw [cohousingref22_pledges.l0]) (evNeg (by omega) (Ev.now _))
      | succ d ih =>
        intro i hd hi
        have hlt : i < l.length := by omega
        have h2 := ih (i + 1) (by omega) (by omega)
        rw [allFrom_step _ hlt]
        have ew : wrap64 ((i : Int) + 1) = (i : Int) + 1 := by rw [wrap_ok (by omega)]
        refine Ev.step (fun k => by rw [cohousingref22_pledges.l0]) (evPos (by omega) (evPos (by omega) ?_))
        by_cases h0 : (rd_T31 l (i : Int)).f0 = (i : Int) + 1
        · refine evPos (by rw [ew]; exact h0) ?_
          by_cases h1 : (rd_T31 l (i : Int)).f2.length = l.length
          · have eb : (((rd_T31 l (i : Int)).f2.length : Int) != (l.length : Int)) = false := by rw [h1]; simp
            rw [eb]
            refine Ev.step (fun k => by rw [cohousingref22_pledges.j1]) (evNeg (by decide) ?_)
            have h3 := rpledges1_ev hn i hlt _ h1 h2 l.length 0 rfl (Nat.zero_le _)
            unfold okPl
            rw [decide_eq_true h0, decide_eq_true h1, Bool.true_and, Bool.true_and, h1]
            unfold okPl at h3
            exact h3
          · have eb : (((rd_T31 l (i : Int)).f2.length : Int) != (l.length : Int)) = true := by simp; omega
            rw [eb]
            unfold okPl
            rw [decide_eq_false h1, Bool.and_false, Bool.false_and, Bool.false_and]
            exact Ev.step (fun k => by rw [cohousingref22_pledges.j1]) (evPos rfl (Ev.now _))
        · refine evNeg (by rw [ew]; exact h0) ?_
          unfold okPl
          rw [decide_eq_false h0, Bool.false_and, Bool.false_and, Bool.false_and]
          exact Ev.step (fun k => by rw [cohousingref22_pledges.j1]) (evPos rfl (Ev.now _))
    exact h l.length 0 rfl (Nat.zero_le _)
theorem rsec1_ev {op : List S23} {n : Int} (hn : op.length ≤ 1000) (i : Nat) (hi : i < op.length) (r : Bool) (hbad : (rd_T23 op (i : Int)).f0 ∈ whosL (op.take i) → r = false)
    (hk : (rd_T23 op (i : Int)).f0 ∉ whosL (op.take i) → Ev (fun k => cohousingref22_secrets.l0 k op n ((i + 1 : Nat) : Int)) r) :
    ∀ d m : Nat, d = i - m → m ≤ i → (rd_T23 op (i : Int)).f0 ∉ whosL (op.take m) → Ev (fun k => cohousingref22_secrets.l1 k op n (i : Int) (m : Int)) r := by
  intro d
  induction d with
  | zero =>
    intro m hd hm hnm
    obtain rfl : m = i := by omega
    refine Ev.step (fun k => by rw [cohousingref22_secrets.l1]) (evNeg (by omega) ?_)
    rw [wrap_succ hi (by omega)]
    exact hk hnm
  | succ d ih =>
    intro m hd hm hnm
    have hlt : m < op.length := by omega
    refine Ev.step (fun k => by rw [cohousingref22_secrets.l1]) (evPos (by omega) (evPos (by omega) (evPos (by omega) (evPos (by omega) (evPos (by omega) ?_)))))
    by_cases e : (rd_T23 op (m : Int)).f0 = (rd_T23 op (i : Int)).f0
    · refine evPos e ?_
      rw [hbad (by
        unfold whosL
        refine List.mem_map.2 ⟨_, ?_, e⟩
        rw [rd23_get hlt]
        exact List.mem_take_iff_getElem.2 ⟨m, by omega, rfl⟩)]
      exact Ev.now _
    · refine evNeg e ?_
      rw [wrap_succ hlt (by omega)]
      refine ih (m + 1) (by omega) (by omega) ?_
      rw [whosL_snoc hlt, List.mem_append, List.mem_singleton]
      exact fun h => h.elim hnm fun h => e h.symm
theorem rsecrets_ev {op : List S23} {n : Nat} (hn : op.length ≤ 1000) : Ev (fun k => cohousingref22_secrets.f k op (n : Int)) (secretsB op n) := by
  have h : ∀ d i : Nat, d = op.length - i → i ≤ op.length → (op.take i).all (okSec n) = true → (whosL (op.take i)).Nodup → Ev (fun k => cohousingref22_secrets.l0 k op (n : Int) (i : Int)) (secretsB op n) := by
    intro d
    induction d with
    | zero =>
      intro i hd hi ha hnd
      obtain rfl : i = op.length := by omega
      rw [List.take_length] at ha hnd
      have e : secretsB op n = true := by unfold secretsB; rw [ha, decide_eq_true hnd]; rfl
      rw [e]
      exact Ev.step (fun k => by rw [cohousingref22_secrets.l0]) (evNeg (by omega) (Ev.now _))
    | succ d ih =>
      intro i hd hi ha hnd
      have hlt : i < op.length := by omega
      have bad : okSec n (rd_T23 op (i : Int)) = false → Ev (fun k => cohousingref22_secrets.j1 k op (n : Int) (i : Int) true) (secretsB op n) := fun h => by
        rw [secrets_bad hlt h]
        exact Ev.step (fun k => by rw [cohousingref22_secrets.j1]) (evPos rfl (Ev.now _))
      refine Ev.step (fun k => by rw [cohousingref22_secrets.l0]) (evPos (by omega) (evPos (by omega) (evSome (rin_f _ _ _) ?_)))
      cases h1 : inB (rd_T23 op (i : Int)).f0 1 (n : Int) with
      | false => exact evNeg (by decide) (bad (by unfold okSec; rw [h1]; rfl))
      | true =>
        refine evPos rfl (evSome (rres_f _) ?_)
        cases h2 : isR (rd_T23 op (i : Int)).f1 with
        | false => exact evNeg (by decide) (bad (by unfold okSec; rw [h1, h2]; rfl))
        | true =>
          refine evPos rfl (evSome (rres_f _) ?_)
          cases h3 : isR (rd_T23 op (i : Int)).f2 with
          | false => exact bad (by unfold okSec; rw [h1, h2, h3]; rfl)
          | true =>
            refine Ev.step (fun k => by rw [cohousingref22_secrets.j1]) (evNeg (by decide) ?_)
            refine rsec1_ev hn i hlt _ (fun h => secrets_twice hlt h) (fun hnm => ih (i + 1) (by omega) (by omega) ?_ ?_) i 0 rfl (Nat.zero_le _) (by rw [List.take_zero]; exact List.not_mem_nil)
            · rw [List.take_succ_eq_append_getElem hlt, List.all_append, ha, Bool.true_and, List.all_cons, List.all_nil, ← rd23_get hlt]
              unfold okSec
              rw [h1, h2, h3]; rfl
            · rw [whosL_snoc hlt, List.nodup_append]
              refine ⟨hnd, List.pairwise_singleton _ _, fun a ha2 b hb2 => ?_⟩
              rw [List.mem_singleton] at hb2
              subst hb2
              exact fun e => hnm (e ▸ ha2)
  exact h op.length 0 rfl (Nat.zero_le _) rfl List.nodup_nil
/-! ### Value -/
theorem rvalue_ev {l : List S47} (hl : okShs l) (hn : l.length ≤ 1000) {need : Nat} (hd : need ≤ l.length) (a0 a1 : Int) : Ev (fun k => cohousingref22_Value.f k a0 a1 l (need : Int)) (valF l need) := by
  have htl : (l.take need).length ≤ 1000 := by rw [List.length_take]; omega
  have h : ∀ d i : Nat, d = l.length - i → i ≤ l.length → Ev (fun k => cohousingref22_Value.l0 k (l.take need) (i : Int) a0 a1 l) (if (l.drop i).all (fun s => decide (thrF (l.take need) s.f0 = s.f1)) = true then (thrF (l.take need) 0, true) else (0, false)) := by
    intro d
    induction d with
    | zero =>
      intro i hd hi
      obtain rfl : i = l.length := by omega
      rw [List.drop_length, List.all_nil, if_pos rfl]
      refine Ev.step (fun k => by rw [cohousingref22_Value.l0]) (evNeg (by omega) ?_)
      exact Ev.bind (rthrough_ev ⟨by decide, by decide⟩ (okShs_take hl _) htl) (Ev.now _)
    | succ d ih =>
      intro i hd hi
      have hlt : i < l.length := by omega
      have h2 := ih (i + 1) (by omega) (by omega)
      rw [List.drop_eq_getElem_cons hlt, List.all_cons, ← rd47_get hlt]
      refine Ev.step (fun k => by rw [cohousingref22_Value.l0]) (evPos (by omega) (evPos (by omega) ?_))
      refine Ev.bind (rthrough_ev (hl _ (rd47_mem hlt)).1 (okShs_take hl _) htl) ?_
      by_cases e : thrF (l.take need) (rd_T47 l (i : Int)).f0 = (rd_T47 l (i : Int)).f1
      · refine evPos e ?_
        rw [decide_eq_true e, Bool.true_and, wrap_succ hlt (by omega)]
        exact h2
      · refine evNeg e ?_
        rw [decide_eq_false e, Bool.false_and, if_neg (by decide)]
        exact Ev.now _
  have h0 := h (l.length - need) need rfl hd
  unfold cohousingref22_Value.f
  refine evPos (by omega) (evPos (by omega) ?_)
  rw [Int.toNat_natCast]
  exact h0
/-! ### Deal -/
theorem okR {a : Int} (h : rs a) : 0 ≤ a ∧ a ≤ 9223372036854775807 := by unfold rs at h; omega
theorem rdeal_ev {who v salt : Int} {coefs : List Int} {n : Int} (hl : coefs.length ≤ 1000) : Ev (fun k => cohousingref22_Deal.f k who v salt coefs n) (dealF who v salt coefs n) := by
  have bad : Ev (fun k => cohousingref22_Deal.j0 k coefs n true who v salt) (0, 0, [], 1) := Ev.step (fun k => by rw [cohousingref22_Deal.j0]) (evPos rfl (Ev.now _))
  unfold dealF dealOk
  refine evSome (rin_f _ _ _) ?_
  cases h1 : inB n 1 16 with
  | false =>
    simp only [Bool.false_and, Bool.false_eq_true, if_false]
    exact bad
  | true =>
    refine evPos rfl (evSome (rin_f _ _ _) ?_)
    cases h2 : inB who 1 n with
    | false =>
      simp only [Bool.and_false, Bool.false_and, Bool.false_eq_true, if_false]
      exact bad
    | true =>
      refine evPos rfl (evSome (rres_f _) ?_)
      cases h3 : isR v with
      | false =>
        simp only [Bool.and_false, Bool.false_and, Bool.false_eq_true, if_false]
        exact bad
      | true =>
        refine evPos rfl (evSome (rres_f _) ?_)
        cases h4 : isR salt with
        | false =>
          simp only [Bool.and_false, Bool.false_and, Bool.false_eq_true, if_false]
          exact bad
        | true =>
          refine evPos rfl (Ev.bind (rresidues_ev _ (by omega)) ?_)
          cases h5 : coefs.all isR with
          | false =>
            simp only [Bool.and_false, Bool.false_and, Bool.false_eq_true, if_false]
            exact bad
          | true =>
            refine evPos rfl ?_
            by_cases h6 : (coefs.length : Int) < n
            · rw [decide_eq_true h6]
              simp only [Bool.and_true, if_true]
              rw [decide_eq_false (show ¬ (coefs.length : Int) ≥ n by omega)]
              have hn : 1 ≤ n ∧ n ≤ 16 := by unfold inB at h1; simp only [Bool.and_eq_true, decide_eq_true_eq] at h1; exact h1
              have hw : 1 ≤ who ∧ who ≤ n := by unfold inB at h2; simp only [Bool.and_eq_true, decide_eq_true_eq] at h2; exact h2
              have hvr : rs v := isR_iff.1 h3
              have hcr : ∀ y ∈ v :: coefs, rs y := by
                intro y hy
                rcases List.mem_cons.1 hy with rfl | hy
                · exact hvr
                · exact isR_iff.1 (List.all_eq_true.1 h5 y hy)
              refine Ev.step (fun k => by rw [cohousingref22_Deal.j0]) ?_
              refine evNeg (by decide) ?_
              refine evSome (a := [v]) rfl ?_
              refine evPos (by rw [List.length_singleton]; omega) ?_
              refine Ev.bind (rsum_ev (by omega) (okR hvr) (okR (isR_iff.1 h4))) ?_
              obtain ⟨m, rfl⟩ := Int.eq_ofNat_of_zero_le (show 0 ≤ n by omega)
              rw [Int.toNat_natCast]
              have hl1 : ∀ d i : Nat, d = m - i → i ≤ m → Ev (fun k => cohousingref22_Deal.l0 k (m : Int) (v :: coefs) ((i : Int) + 1) who (sumF who v salt) (dealSh v coefs i)) (who, sumF who v salt, dealSh v coefs m, 0) := by
                intro d
                induction d with
                | zero =>
                  intro i hd hi
                  obtain rfl : i = m := by omega
                  exact Ev.step (fun k => by rw [cohousingref22_Deal.l0]) (evNeg (by omega) (Ev.now _))
                | succ d ih =>
                  intro i hd hi
                  have hlt : i < m := by omega
                  have h7 := ih (i + 1) (by omega) (by omega)
                  refine Ev.step (fun k => by rw [cohousingref22_Deal.l0]) (evPos (by omega) ?_)
                  refine Ev.bind (rat_ev (by unfold rs; omega) hcr (by rw [List.length_cons]; omega)) (evPos (by rw [dealSh_len]; omega) ?_)
                  have ew : wrap64 (((i : Int) + 1) + 1) = ((i + 1 : Nat) : Int) + 1 := by rw [wrap_ok (by omega)]; omega
                  rw [ew]
                  rw [dealSh_succ] at h7
                  exact h7
              exact hl1 m 0 rfl (Nat.zero_le _)
            · rw [decide_eq_false h6]
              simp only [Bool.and_false, Bool.false_eq_true, if_false]
              rw [decide_eq_true (show (coefs.length : Int) ≥ n by omega)]
              exact bad
/-! ### Draw -/
theorem byF_take {op : List S23} {n i : Nat} (hs : secretsB op n = true) (h : i < op.length) : (rd_T23 op (i : Int)).f0 ∉ whosL (op.take i) := fun hm => by
  have := secrets_twice (n := n) h hm
  rw [hs] at this; cases this
theorem byF_step {op : List S23} {i : Nat} (h : i < op.length) (hn : (rd_T23 op (i : Int)).f0 ∉ whosL (op.take i)) (w : Int) : byF (op.take (i + 1)) w = if w = (rd_T23 op (i : Int)).f0 then some (rd_T23 op (i : Int)) else byF (op.take i) w := by
  rw [← byF_snoc h hn]
def fitO (o : Option S23) (f1 : Int) : Nat := match o with
  | none => 0
  | some s => if sumF s.f0 s.f1 s.f2 = f1 then 1 else 0
def cheatO (ok : Bool) (v : Int) (o : Option S23) (f1 : Int) : Bool := !ok || match o with
  | none => false
  | some s => !decide (sumF s.f0 s.f1 s.f2 = f1) || decide (s.f1 ≠ v)
theorem rdraw1_ev {l : List S31} {op : List S23} (need : Int) (hl : l.length ≤ 1000) (hop : op.length ≤ 1000) (hs : secretsB op l.length = true) (i : Nat) (hi : i < l.length) (hf0 : (rd_T31 l (i : Int)).f0 = (i : Int) + 1) (seed : Int) (cnt : Nat) (hc : cnt ≤ i) (ch : List Int) (hch : ch.length ≤ 1000) (v : Int) (ok : Bool) (r : Int × List Int × Int)
    (hk : Ev (fun k => cohousingref22_Draw.l0 k l need op seed ((cnt + fitO (byF op ((i : Int) + 1)) (rd_T31 l (i : Int)).f1 : Nat) : Int) (ch ++ if cheatO ok v (byF op ((i : Int) + 1)) (rd_T31 l (i : Int)).f1 = true then [(i : Int) + 1] else []) ((i + 1 : Nat) : Int)) r) :
    ∀ d m : Nat, d = op.length - m → m ≤ op.length → Ev (fun k => cohousingref22_Draw.l1 k l need op seed ((cnt + fitO (byF (op.take m) ((i : Int) + 1)) (rd_T31 l (i : Int)).f1 : Nat) : Int) ch (i : Int) v (cheatO ok v (byF (op.take m) ((i : Int) + 1)) (rd_T31 l (i : Int)).f1) (m : Int)) r := by
  have ew : wrap64 ((i : Int) + 1) = (i : Int) + 1 := by rw [wrap_ok (by omega)]
  intro d
  induction d with
  | zero =>
    intro m hd hm
    obtain rfl : m = op.length := by omega
    rw [List.take_length]
    refine Ev.step (fun k => by rw [cohousingref22_Draw.l1]) (evNeg (by omega) ?_)
    cases hx : cheatO ok v (byF op ((i : Int) + 1)) (rd_T31 l (i : Int)).f1 with
    | true =>
      rw [hx, if_pos rfl] at hk
      refine evPos rfl (evPos (by omega) ?_)
      rw [ew]
      exact hk
    | false =>
      rw [hx, if_neg (by decide), List.append_nil] at hk
      refine evNeg (by decide) ?_
      rw [ew]
      exact hk
  | succ d ih =>
    intro m hd hm
    have hlt : m < op.length := by omega
    have h2 := ih (m + 1) (by omega) (by omega)
    have hnm := byF_take hs hlt
    rw [byF_step hlt hnm] at h2
    refine Ev.step (fun k => by rw [cohousingref22_Draw.l1]) (evPos (by omega) (evPos (by omega) ?_))
    rw [ew]
    by_cases e : (rd_T23 op (m : Int)).f0 = (i : Int) + 1
    · rw [if_pos e.symm] at h2
      have hnone : byF (op.take m) ((i : Int) + 1) = none := by rw [byF_none, ← e]; exact hnm
      rw [hnone]
      have hsc : okSec l.length (rd_T23 op (m : Int)) = true := by
        unfold secretsB at hs
        rw [Bool.and_eq_true] at hs
        exact List.all_eq_true.1 hs.1 _ (rd23_mem hlt)
      have hsr : rs (rd_T23 op (m : Int)).f1 ∧ rs (rd_T23 op (m : Int)).f2 := by
        unfold okSec at hsc
        rw [Bool.and_eq_true, Bool.and_eq_true, isR_iff, isR_iff] at hsc
        exact hsc.2
      have e0 : fitO none (rd_T31 l (i : Int)).f1 = 0 := rfl
      have e1 : cheatO ok v none (rd_T31 l (i : Int)).f1 = !ok := by unfold cheatO; rw [Bool.or_false]
      have ewm : wrap64 ((m : Int) + 1) = ((m + 1 : Nat) : Int) := wrap_succ hlt (by omega)
      have ewc : wrap64 (((cnt + 0 : Nat) : Int) + 1) = ((cnt + 1 : Nat) : Int) := by rw [wrap_ok (by omega)]; omega
      rw [e0, e1, ewm, ewc]
      refine evPos e (Ev.bind (rsum_ev (by rw [e]; omega) (okR hsr.1) (okR hsr.2)) (evPos (by omega) (evPos (by omega) ?_)))
      unfold fitO cheatO at h2
      by_cases e3 : sumF (rd_T23 op (m : Int)).f0 (rd_T23 op (m : Int)).f1 (rd_T23 op (m : Int)).f2 = (rd_T31 l (i : Int)).f1
      · refine evPos e3 ?_
        simp only [if_pos e3, decide_eq_true e3, Bool.not_true, Bool.false_or] at h2
        cases ok with
        | false =>
          refine evPos rfl ?_
          simp only [Bool.not_false, Bool.true_or] at h2
          exact h2
        | true =>
          refine evNeg (by decide) ?_
          simp only [Bool.not_true, Bool.false_or] at h2
          have e4 : ((rd_T23 op (m : Int)).f1 != v) = decide ((rd_T23 op (m : Int)).f1 ≠ v) := by
            by_cases q : (rd_T23 op (m : Int)).f1 = v
            · simp [q]
            · simp [q]
          rw [e4]
          exact h2
      · refine evNeg e3 ?_
        simp only [if_neg e3, decide_eq_false e3, Bool.not_false, Bool.true_or, Bool.or_true] at h2
        exact evIte (fun _ => h2) (fun _ => h2)
    · rw [if_neg (fun q => e q.symm)] at h2
      refine evNeg e ?_
      rw [wrap_succ hlt (by omega)]
      exact h2
theorem rdraw_ev {l : List S31} {op : List S23} {need : Int} (hl : l.length ≤ 1000) (hop : op.length ≤ 1000) : Ev (fun k => cohousingref22_Draw.f k l need op) (drawF l need op) := by
  have bad : Ev (fun k => cohousingref22_Draw.j0 k l need op true) (0, [], 1) := Ev.step (fun k => by rw [cohousingref22_Draw.j0]) (evPos rfl (Ev.now _))
  unfold drawF
  refine Ev.bind (rpledges_ev hl) (Ev.bind (rsecrets_ev hop) ?_)
  cases h1 : pledgesB l with
  | false => simp only [Bool.false_and, Bool.false_eq_true, if_false]; exact bad
  | true =>
    refine evPos rfl ?_
    cases h2 : secretsB op l.length with
    | false => simp only [Bool.and_false, Bool.false_eq_true, if_false]; exact bad
    | true =>
      refine evPos rfl (evSome (rin_f _ _ _) ?_)
      cases h3 : inB need 1 (l.length : Int) with
      | false => simp only [Bool.and_false, Bool.false_and, Bool.false_eq_true, if_false]; exact bad
      | true =>
        simp only [Bool.and_true, if_true]
        refine Ev.step (fun k => by rw [cohousingref22_Draw.j0]) (evNeg (by decide) ?_)
        have hn : 1 ≤ need ∧ need ≤ l.length := by unfold inB at h3; simp only [Bool.and_eq_true, decide_eq_true_eq] at h3; exact h3
        obtain ⟨m, rfl⟩ := Int.eq_ofNat_of_zero_le (show 0 ≤ need by omega)
        rw [Int.toNat_natCast]
        have h : ∀ d i : Nat, d = l.length - i → i ≤ l.length → Ev (fun k => cohousingref22_Draw.l0 k l (m : Int) op (seedF (l.take i) m) (rightN (l.take i) op : Int) (cheatsL (l.take i) op m) (i : Int)) (if (rightN l op : Int) < m then (0, [], 33) else (seedF l m, cheatsL l op m, 0)) := by
          intro d
          induction d with
          | zero =>
            intro i hd hi
            obtain rfl : i = l.length := by omega
            rw [List.take_length]
            refine Ev.step (fun k => by rw [cohousingref22_Draw.l0]) (evNeg (by omega) ?_)
            by_cases e : (rightN l op : Int) < m
            · simp only [if_pos e]; exact Ev.now _
            · simp only [if_neg e]; exact Ev.now _
          | succ d ih =>
            intro i hd hi
            have hlt : i < l.length := by omega
            have h4 := ih (i + 1) (by omega) (by omega)
            have hp := pl_ok h1 hlt
            rw [seedF_snoc hlt, rightN_snoc hlt, cheatsL_snoc hlt] at h4
            refine Ev.step (fun k => by rw [cohousingref22_Draw.l0]) (evPos (by omega) (evPos (by omega) ?_))
            refine Ev.bind (rvalue_ev hp.1 (by rw [hp.2.1]; omega) (by rw [hp.2.1]; omega) _ _) ?_
            rw [radd (rs_seedF _ _) (rs_valF _ _)]
            have ef : fitO (byF op ((i : Int) + 1)) (rd_T31 l (i : Int)).f1 = if fitsB op (rd_T31 l (i : Int)) = true then 1 else 0 := by
              unfold fitO fitsB
              rw [hp.2.2]
              cases byF op ((i : Int) + 1) with
              | none => rfl
              | some s => by_cases q : sumF s.f0 s.f1 s.f2 = (rd_T31 l (i : Int)).f1 <;> simp [q]
            have ec : cheatO (valF (rd_T31 l (i : Int)).f2 m).2 (valF (rd_T31 l (i : Int)).f2 m).1 (byF op ((i : Int) + 1)) (rd_T31 l (i : Int)).f1 = cheatB op m (rd_T31 l (i : Int)) := by
              unfold cheatO cheatB
              rw [hp.2.2]
              cases byF op ((i : Int) + 1) <;> rfl
            have hcl : (cheatsL (l.take i) op m).length ≤ 1000 := by
              unfold cheatsL
              rw [List.length_map]
              have := List.length_filter_le (cheatB op m) (l.take i)
              rw [List.length_take] at this
              omega
            have hrl : rightN (l.take i) op ≤ i := by
              have := rightN_le (l.take i) op
              rw [List.length_take] at this
              omega
            have h5 := rdraw1_ev (m : Int) hl hop h2 i hlt hp.2.2 ((seedF (l.take i) m + (valF (rd_T31 l (i : Int)).f2 m).1) % 1073741789) (rightN (l.take i) op) hrl (cheatsL (l.take i) op m) hcl (valF (rd_T31 l (i : Int)).f2 m).1 (valF (rd_T31 l (i : Int)).f2 m).2 _ (by
              rw [ef, ec]
              rw [hp.2.2] at h4
              exact h4) op.length 0 rfl (Nat.zero_le _)
            rw [List.take_zero] at h5
            have e0 : fitO (byF [] ((i : Int) + 1)) (rd_T31 l (i : Int)).f1 = 0 := rfl
            have e1 : cheatO (valF (rd_T31 l (i : Int)).f2 m).2 (valF (rd_T31 l (i : Int)).f2 m).1 (byF [] ((i : Int) + 1)) (rd_T31 l (i : Int)).f1 = !(valF (rd_T31 l (i : Int)).f2 m).2 := by
              unfold cheatO; rw [show byF [] ((i : Int) + 1) = none from rfl, Bool.or_false]
            rw [e0, e1] at h5
            exact h5
        exact h l.length 0 rfl (Nat.zero_le _)
/-! ### Lots -/
theorem rstep {x : Int} (hx : rs x) : Int.tmod (wrap64 (wrap64 (48271 * x) + 11)) 1073741789 = stepL x := by
  unfold rs at hx
  unfold stepL
  rw [wrap_ok (x := 48271 * x) (by omega), wrap_ok (by omega), tmod_pos (by omega), Int.mul_comm]
  omega
theorem rlots1_ev : ∀ (i : Nat) (l : List Int) (x : Int), rs x → i < l.length ∨ i = 0 → l.length ≤ 1000 → Ev (fun k => cohousingref22_Lots.l1 k l x (i : Int)) (lotsGo i x l, 0)
  | 0, l, x, _, _, _ => by
    show Ev _ (l, 0)
    exact Ev.step (fun k => by rw [cohousingref22_Lots.l1]) (evNeg (by decide) (Ev.now _))
  | i + 1, l, x, hx, hi, hl => by
    have hi' : i + 1 < l.length := by omega
    have hs := stepL_rs x
    have ht : (stepL x).tmod ((i : Int) + 2) = stepL x % ((i : Int) + 2) := tmod_pos hs.1
    have hw : wrap64 (((i + 1 : Nat) : Int) + 1) = (i : Int) + 2 := by rw [wrap_ok (by omega)]; omega
    have h0 : 0 ≤ stepL x % ((i : Int) + 2) := Int.emod_nonneg _ (by omega)
    have h1 : stepL x % ((i : Int) + 2) < (i : Int) + 2 := Int.emod_lt_of_pos _ (by omega)
    have ih := rlots1_ev i (swapL l (i + 1) (stepL x % ((i : Int) + 2)).toNat) (stepL x) hs (by rw [swapL_len]; omega) (by rw [swapL_len]; exact hl)
    refine Ev.step (fun k => by rw [cohousingref22_Lots.l1]) (evPos (by omega) ?_)
    rw [rstep hx, hw, ht]
    refine evNeg (by omega) (evPos (by omega) (evPos (by omega) (evPos h0 (evPos (by omega) ?_))))
    rw [wrap_pred (by omega), Int.toNat_natCast]
    unfold lotsGo
    unfold swapL at ih ⊢
    rw [Int.toNat_of_nonneg h0] at ih ⊢
    exact ih
theorem rlots_ev (seed n : Int) : Ev (fun k => cohousingref22_Lots.f k seed n) (lotsF seed n) := by
  unfold lotsF
  refine evSome (rres_f _) ?_
  cases h1 : isR seed with
  | false =>
    simp only [Bool.false_and, Bool.false_eq_true, if_false]
    exact Ev.step (fun k => by rw [cohousingref22_Lots.j0]) (evPos rfl (Ev.now _))
  | true =>
    refine evPos rfl (evSome (rin_f _ _ _) ?_)
    cases h2 : inB n 0 64 with
    | false =>
      simp only [Bool.and_false, Bool.false_eq_true, if_false]
      exact Ev.step (fun k => by rw [cohousingref22_Lots.j0]) (evPos (show (!false) = true from rfl) (Ev.now _))
    | true =>
      simp only [Bool.and_true, if_true]
      have hn : 0 ≤ n ∧ n ≤ 64 := by unfold inB at h2; simp only [Bool.and_eq_true, decide_eq_true_eq] at h2; exact h2
      obtain ⟨m, rfl⟩ := Int.eq_ofNat_of_zero_le hn.1
      refine Ev.step (fun k => by rw [cohousingref22_Lots.j0]) (evNeg (by decide) ?_)
      have hl0 : ∀ d i : Nat, d = m - i → i ≤ m → Ev (fun k => cohousingref22_Lots.l0 k seed (m : Int) (firstN i) ((i : Int) + 1)) (lotsGo (m - 1) seed (firstN m), 0) := by
        intro d
        induction d with
        | zero =>
          intro i hd hi
          obtain rfl : i = m := by omega
          refine Ev.step (fun k => by rw [cohousingref22_Lots.l0]) (evNeg (by omega) ?_)
          by_cases h0 : i = 0
          · subst h0
            show Ev _ (firstN 0, 0)
            exact Ev.step (fun k => by rw [cohousingref22_Lots.l1]) (evNeg (by rw [wrap_ok (by omega)]; decide) (Ev.now _))
          · obtain ⟨j, rfl⟩ : ∃ j, i = j + 1 := ⟨i - 1, by omega⟩
            rw [wrap_pred (by omega)]
            exact rlots1_ev j _ _ (isR_iff.1 h1) (by rw [firstN_len]; omega) (by rw [firstN_len]; omega)
        | succ d ih =>
          intro i hd hi
          have hlt : i < m := by omega
          have h6 := ih (i + 1) (by omega) (by omega)
          refine Ev.step (fun k => by rw [cohousingref22_Lots.l0]) (evPos (by omega) (evPos (by rw [firstN_len]; omega) ?_))
          have ew : wrap64 (((i : Int) + 1) + 1) = ((i + 1 : Nat) : Int) + 1 := by rw [wrap_ok (by omega)]; omega
          rw [ew]
          rw [firstN_succ] at h6
          exact h6
      exact hl0 m 0 rfl (Nat.zero_le _)
/-! ### SamePledge -/
theorem rsame_ev (a b : Int) (l : List S47) (hl : l.length ≤ 1000) : Ev (fun k => cohousingref22_SamePledge.f k a b l a b l) true := by
  refine evPos rfl (evPos rfl ?_)
  have e : ((l.length : Int) != (l.length : Int)) = false := by simp
  rw [e]
  refine Ev.step (fun k => by rw [cohousingref22_SamePledge.j0]) (evNeg (by decide) ?_)
  have h : ∀ d i : Nat, d = l.length - i → i ≤ l.length → Ev (fun k => cohousingref22_SamePledge.l0 k (i : Int) a b l a b l) true := by
    intro d
    induction d with
    | zero =>
      intro i hd hi
      exact Ev.step (fun k => by rw [cohousingref22_SamePledge.l0]) (evNeg (by omega) (Ev.now _))
    | succ d ih =>
      intro i hd hi
      have hlt : i < l.length := by omega
      have h2 := ih (i + 1) (by omega) (by omega)
      refine Ev.step (fun k => by rw [cohousingref22_SamePledge.l0]) (evPos (by omega) (evPos (by omega) (evPos (by omega) (evNeg (by simp) ?_))))
      rw [wrap_succ hlt (by omega)]
      exact h2
  exact h l.length 0 rfl (Nat.zero_le _)
end Go.Proofs.YtfkeelccnomjkaaDoor.P
