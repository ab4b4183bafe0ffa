/- What Deal and Lots compute; shares of a polynomial recover its values; equality of lists. -/
import Derived.Test.YtfkeelccnomjkaaDoorGDrawSpec
import Derived.Test.YtfkeelccnomjkaaDoorPRD
import Derived.Test.YtfkeelccnomjkaaDoorPRB
import Derived.Test.YtfkeelccnomjkaaDoorPRA
namespace Go.Proofs.YtfkeelccnomjkaaDoor.P
open Go.RowKit Go.Proofs.YtfkeelccnomjkaaDoorW.PrintWords Go.Proofs.YtfkeelccnomjkaaDoorW.PrintLast Go.Proofs.YtfkeelccnomjkaaDoorW.PrintMore Go.Proofs.YtfkeelccnomjkaaDoor.M Go.Proofs.YtfkeelccnomjkaaDoor.QF
set_option linter.unusedVariables false
set_option linter.unusedSimpArgs false
/-! ### Deal -/
def dealOk (who v salt : Int) (coefs : List Int) (n : Int) : Bool := inB n 1 16 && inB who 1 n && (isR v && isR salt) && coefs.all isR && decide ((coefs.length : Int) < n)
def dealSh (v : Int) (coefs : List Int) (k : Nat) : List S47 := (List.range k).map fun (i : Nat) => (⟨(i : Int) + 1, atF (v :: coefs) ((i : Int) + 1)⟩ : S47)
def dealF (who v salt : Int) (coefs : List Int) (n : Int) : Int × Int × List S47 × Int :=
  if dealOk who v salt coefs n = true then (who, sumF who v salt, dealSh v coefs n.toNat, 0) else (0, 0, [], 1)
theorem dealSh_succ (v : Int) (coefs : List Int) (k : Nat) : dealSh v coefs (k + 1) = dealSh v coefs k ++ [⟨(k : Int) + 1, atF (v :: coefs) ((k : Int) + 1)⟩] := by simp [dealSh, List.range_succ]
theorem dealSh_len (v : Int) (coefs : List Int) (k : Nat) : (dealSh v coefs k).length = k := by simp [dealSh]
theorem rd_take_all {l : List Int} {i : Nat} (h : i < l.length) : l.take (i + 1) = l.take i ++ [rd l (i : Int)] := rd_take_succ h
theorem deal_ev {who v salt : Int} {coefs : List Int} {n : Int} (hw : okI who) (hv : okI v) (hs : okI salt) : Ev (fun k => lottery_Deal.f k who v salt coefs n) (dealF who v salt coefs n) := by
  unfold dealF
  have hr2 : lottery_isResidue.f [v, salt] = some (isR v && isR salt) := by unfold lottery_isResidue.f; simp
  have hr3 : lottery_isResidue.f coefs = some (coefs.all isR) := rfl
  have bad : Ev (fun k => lottery_Deal.j0 k coefs n true who v salt) (0, 0, [], 1) := Ev.step (fun k => by rw [lottery_Deal.j0]) (evPos rfl (Ev.now _))
  unfold dealOk
  cases h1 : inB n 1 16 with
  | false =>
    simp only [Bool.false_and, Bool.false_eq_true, if_false]
    refine evSome (between_f _ _ _) ?_
    rw [h1]; exact evNeg (by decide) bad
  | true =>
    cases h2 : inB who 1 n with
    | false =>
      simp only [Bool.and_false, Bool.false_and, Bool.false_eq_true, if_false]
      refine evSome (between_f _ _ _) ?_
      rw [h1]
      refine evPos rfl (evSome (between_f _ _ _) ?_)
      rw [h2]; exact evNeg (by decide) bad
    | true =>
      cases h3 : (isR v && isR salt) with
      | false =>
        simp only [Bool.and_false, Bool.false_and, Bool.false_eq_true, if_false]
        refine evSome (between_f _ _ _) ?_
        rw [h1]
        refine evPos rfl (evSome (between_f _ _ _) ?_)
        rw [h2]
        refine evPos rfl (evSome hr2 ?_)
        rw [h3]; exact evNeg (by decide) bad
      | true =>
        cases h4 : coefs.all isR with
        | false =>
          simp only [Bool.and_false, Bool.false_and, Bool.false_eq_true, if_false]
          refine evSome (between_f _ _ _) ?_
          rw [h1]
          refine evPos rfl (evSome (between_f _ _ _) ?_)
          rw [h2]
          refine evPos rfl (evSome hr2 ?_)
          rw [h3]
          refine evPos rfl (evSome hr3 ?_)
          rw [h4]; exact evNeg (by decide) bad
        | true =>
          refine evSome (between_f _ _ _) ?_
          rw [h1]
          refine evPos rfl (evSome (between_f _ _ _) ?_)
          rw [h2]
          refine evPos rfl (evSome hr2 ?_)
          rw [h3]
          refine evPos rfl (evSome hr3 ?_)
          rw [h4]
          refine evPos rfl ?_
          by_cases h5 : (coefs.length : Int) < n
          · rw [decide_eq_true h5]
            simp only [Bool.and_true, if_true]
            rw [decide_eq_false (show ¬ (coefs.length : Int) ≥ n by omega)]
            refine Ev.step (fun k => by rw [lottery_Deal.j0]) (evNeg (by decide) ?_)
            have hn : 1 ≤ n ∧ n ≤ 16 := by unfold inB at h1; simp only [Bool.and_eq_true, decide_eq_true_eq] at h1; exact h1
            have hvr : rs v := by rw [Bool.and_eq_true, isR_iff] at h3; exact h3.1
            have hcr : ∀ y ∈ v :: coefs, rs y := by
              intro y hy
              rcases List.mem_cons.1 hy with rfl | hy
              · exact hvr
              · exact isR_iff.1 (List.all_eq_true.1 h4 y hy)
            obtain ⟨m, rfl⟩ := Int.eq_ofNat_of_zero_le (show 0 ≤ n by omega)
            have hl1 : ∀ d i : Nat, d = m - i → i ≤ m → Ev (fun k => lottery_Deal.l1 k (v :: coefs) (m : Int) (i : Int) who (sumF who v salt) (dealSh v coefs i)) (who, sumF who v salt, dealSh v coefs m, 0) := by
              intro d
              induction d with
              | zero =>
                intro i hd hi
                obtain rfl : i = m := by omega
                exact Ev.step (fun k => by rw [lottery_Deal.l1]) (evNeg (by omega) (Ev.now _))
              | succ d ih =>
                intro i hd hi
                have hlt : i < m := by omega
                have h6 := ih (i + 1) (by omega) (by omega)
                refine Ev.step (fun k => by rw [lottery_Deal.l1]) (evPos (by omega) ?_)
                rw [wrap_succ hlt (by omega)]
                refine evSome (lottery_polynomial_at.ok (by unfold rs; omega) hcr) (evPos (by rw [dealSh_len]; omega) ?_)
                rw [dealSh_succ] at h6
                exact h6
            have hl0 : ∀ d i : Nat, d = coefs.length - i → i ≤ coefs.length → Ev (fun k => lottery_Deal.l0 k (m : Int) (v :: coefs.take i) coefs (coefs.length : Int) (i : Int) who v salt) (who, sumF who v salt, dealSh v coefs m, 0) := by
              intro d
              induction d with
              | zero =>
                intro i hd hi
                obtain rfl : i = coefs.length := by omega
                refine Ev.step (fun k => by rw [lottery_Deal.l0]) (evNeg (by omega) (evSome (a := sumF who v salt) ?_ ?_))
                · unfold lottery_sum.f; rw [if_pos ⟨hw, hv, hs⟩]
                · rw [List.take_length]; exact hl1 m 0 rfl (Nat.zero_le _)
              | succ d ih =>
                intro i hd hi
                have hlt : i < coefs.length := by omega
                have h6 := ih (i + 1) (by omega) (by omega)
                refine Ev.step (fun k => by rw [lottery_Deal.l0]) (evPos (by omega) (evPos (by omega) (evPos (by omega) (evPos (by rw [List.length_cons, List.length_take]; omega) ?_))))
                rw [wrap_succ hlt (by omega)]
                rw [rd_take_succ hlt] at h6
                exact h6
            exact hl0 coefs.length 0 rfl (Nat.zero_le _)
          · rw [decide_eq_false h5]
            simp only [Bool.and_false, Bool.false_eq_true, if_false]
            rw [decide_eq_true (show (coefs.length : Int) ≥ n by omega)]
            exact bad
/-! ### Shares of a polynomial -/
def onPoly (f : List Int) (l : List S47) : Prop := ∀ s ∈ l, s.f1 = atF f s.f0
theorem diff_of {l : List S47} (hl : l.all okS = true) (hn : (ptsL l).Nodup) : Diff 1073741789 (ssL l) := by
  unfold Diff ssL
  rw [List.map_map]
  have e : (l.map ((fun t : Int × Int => t.1) ∘ fun s : S47 => (s.f0, s.f1))) = ptsL l := rfl
  rw [e]
  have hb : ∀ x ∈ ptsL l, rs x := by
    intro x hx
    unfold ptsL at hx
    obtain ⟨s, hs, rfl⟩ := List.mem_map.1 hx
    exact (okShs_of hl s hs).1
  rw [List.nodup_iff_pairwise_ne] at hn
  refine hn.imp_of_mem fun {a b} ha hb' hne hc => hne ?_
  exact hc.eq (hb a ha) (hb b hb')
theorem thr_on {l : List S47} {f : List Int} (hl : l.all okS = true) (hn : (ptsL l).Nodup) (hf : f.length ≤ l.length) (hp : onPoly f l) (x : Int) : thrF l x = atF f x := by
  have h := thr_poly q_prime (diff_of hl hn) (f := f) (by rw [ssL_len]; exact hf) (fun j hj => by
    rw [ssL_len] at hj
    rw [ssL_get hj]
    have := hp _ (rd47_mem hj)
    rw [this]
    exact atF_cg _ _) x
  have h2 := (thrF_cg l x).trans (h.trans (atF_cg f x).symm)
  exact h2.eq (thrF_rs _ _) (atF_rs _ _)
theorem recF_on {l : List S47} {f : List Int} (hb : inB (l.length : Int) 1 16 = true) (hs : sharesB l = true) (hf : f.length ≤ l.length) (hp : onPoly f l) : recF l = (atF f 0, 0) := by
  unfold recF
  rw [if_pos ⟨hb, hs⟩]
  unfold sharesB at hs
  rw [Bool.and_eq_true, decide_eq_true_eq] at hs
  rw [thr_on hs.1 hs.2 hf hp]
theorem atF_zero {v : Int} (c : List Int) (hv : rs v) : atF (v :: c) 0 = v := by
  unfold atF
  show (v + 0 * ev c 0) % 1073741789 = v
  rw [Int.zero_mul, Int.add_zero]
  exact Int.emod_eq_of_lt hv.1 hv.2
/-! ### Lots -/
def stepL (x : Int) : Int := (x * 48271 % 1073741789 + 11) % 1073741789
def swapL (l : List Int) (i k : Nat) : List Int := (l.set i (rd l (k : Int))).set k (rd l (i : Int))
def lotsGo : Nat → Int → List Int → List Int
  | 0, _, l => l
  | i + 1, x, l => lotsGo i (stepL x) (swapL l (i + 1) (stepL x % ((i : Int) + 2)).toNat)
def firstN (n : Nat) : List Int := (List.range n).map fun (i : Nat) => (i : Int) + 1
def lotsF (seed n : Int) : List Int × Int := if (isR seed && inB n 0 64) = true then (lotsGo (n.toNat - 1) seed (firstN n.toNat), 0) else ([], 1)
theorem firstN_succ (n : Nat) : firstN (n + 1) = firstN n ++ [(n : Int) + 1] := by simp [firstN, List.range_succ]
theorem firstN_len (n : Nat) : (firstN n).length = n := by simp [firstN]
theorem swapL_len (l : List Int) (i k : Nat) : (swapL l i k).length = l.length := by simp [swapL]
theorem stepL_rs (x : Int) : rs (stepL x) := rs_mod _
theorem wrap_pred {i : Nat} (h : i ≤ 1000000) : wrap64 (((i + 1 : Nat) : Int) - 1) = (i : Int) := by rw [wrap_ok (by omega)]; omega
theorem lots1_ev : ∀ (i : Nat) (l : List Int) (x : Int), rs x → i < l.length ∨ i = 0 → l.length ≤ 1000 → Ev (fun k => lottery_Lots.l1 k l x (i : Int)) (lotsGo i x l, 0)
  | 0, l, x, _, _, _ => by
    show Ev _ (l, 0)
    exact Ev.step (fun k => by rw [lottery_Lots.l1]) (evNeg (by decide) (Ev.now _))
  | i + 1, l, x, hx, hi, hl => by
    have hi' : i + 1 < l.length := by omega
    have hs := stepL_rs x
    have ht : (stepL x).tmod ((i : Int) + 2) = stepL x % ((i : Int) + 2) := tmod_pos hs.1
    have hw : wrap64 (((i + 1 : Nat) : Int) + 1) = (i : Int) + 2 := by rw [wrap_ok (by omega)]; omega
    have h0 : 0 ≤ stepL x % ((i : Int) + 2) := Int.emod_nonneg _ (by omega)
    have h1 : stepL x % ((i : Int) + 2) < (i : Int) + 2 := Int.emod_lt_of_pos _ (by omega)
    have ih := lots1_ev i (swapL l (i + 1) (stepL x % ((i : Int) + 2)).toNat) (stepL x) hs (by rw [swapL_len]; omega) (by rw [swapL_len]; exact hl)
    refine Ev.step (fun k => by rw [lottery_Lots.l1]) (evPos (by omega) ?_)
    refine evSome (times_f hx ⟨by decide, by decide⟩) (evSome (plus_f (rs_mod _) ⟨by decide, by decide⟩) ?_)
    rw [show (x * 48271 % 1073741789 + 11) % 1073741789 = stepL x from rfl, hw, ht]
    refine evNeg (by omega) (evPos h0 (evPos (by omega) (evPos (by omega) (evPos (by omega) ?_))))
    rw [wrap_pred (by omega), Int.toNat_natCast]
    unfold lotsGo
    unfold swapL at ih ⊢
    rw [Int.toNat_of_nonneg h0] at ih ⊢
    exact ih
theorem lots_ev (seed n : Int) : Ev (fun k => lottery_Lots.f k seed n) (lotsF seed n) := by
  have hr : lottery_isResidue.f [seed] = some (isR seed) := by unfold lottery_isResidue.f; simp
  unfold lotsF
  cases h1 : isR seed with
  | false =>
    simp only [Bool.false_and, Bool.false_eq_true, if_false]
    refine evSome hr ?_
    rw [h1]
    exact evNeg (by decide) (Ev.step (fun k => by rw [lottery_Lots.j0]) (evPos rfl (Ev.now _)))
  | true =>
    refine evSome hr ?_
    rw [h1]
    refine evPos rfl (evSome (between_f _ _ _) ?_)
    cases h2 : inB n 0 64 with
    | false =>
      simp only [Bool.and_false, Bool.false_eq_true, if_false]
      exact Ev.step (fun k => by rw [lottery_Lots.j0]) (evPos (show (!false) = true from rfl) (Ev.now _))
    | true =>
      simp only [Bool.and_true, if_true]
      have hn : 0 ≤ n ∧ n ≤ 64 := by unfold inB at h2; simp only [Bool.and_eq_true, decide_eq_true_eq] at h2; exact h2
      obtain ⟨m, rfl⟩ := Int.eq_ofNat_of_zero_le hn.1
      refine Ev.step (fun k => by rw [lottery_Lots.j0]) (evNeg (by decide) ?_)
      have hl0 : ∀ d i : Nat, d = m - i → i ≤ m → Ev (fun k => lottery_Lots.l0 k seed (m : Int) (firstN i) (m : Int) (i : Int)) (lotsGo (m - 1) seed (firstN m), 0) := by
        intro d
        induction d with
        | zero =>
          intro i hd hi
          obtain rfl : i = m := by omega
          refine Ev.step (fun k => by rw [lottery_Lots.l0]) (evNeg (by omega) ?_)
          by_cases h0 : i = 0
          · subst h0
            show Ev _ (firstN 0, 0)
            exact Ev.step (fun k => by rw [lottery_Lots.l1]) (evNeg (by rw [wrap_ok (by omega)]; decide) (Ev.now _))
          · obtain ⟨j, rfl⟩ : ∃ j, i = j + 1 := ⟨i - 1, by omega⟩
            rw [wrap_pred (by omega)]
            exact lots1_ev j _ _ (isR_iff.1 h1) (by rw [firstN_len]; omega) (by rw [firstN_len]; omega)
        | succ d ih =>
          intro i hd hi
          have hlt : i < m := by omega
          have h6 := ih (i + 1) (by omega) (by omega)
          refine Ev.step (fun k => by rw [lottery_Lots.l0]) (evPos (by omega) (evPos (by rw [firstN_len]; omega) ?_))
          rw [wrap_succ hlt (by omega)]
          rw [firstN_succ] at h6
          exact h6
      exact hl0 m 0 rfl (Nat.zero_le _)
/-! ### Equality of lists -/
theorem rdI_get {l : List Int} {i : Nat} (h : i < l.length) : rd l (i : Int) = l[i] := by unfold rd; rw [Int.toNat_natCast, List.getD_eq_getElem?_getD, List.getElem?_eq_getElem h]; rfl
theorem ints_ev (a b : List Int) (ha : a.length ≤ 1000000) : Ev (fun k => cohousingref22_Ints.f k a b) (decide (a = b)) := by
  by_cases hl : (a.length : Int) = (b.length : Int)
  · refine evPos hl ?_
    have hl' : a.length = b.length := by omega
    have h : ∀ d i : Nat, d = a.length - i → i ≤ a.length → a.take i = b.take i → Ev (fun k => cohousingref22_Ints.l0 k a b (i : Int)) (decide (a = b)) := by
      intro d
      induction d with
      | zero =>
        intro i hd hi he
        obtain rfl : i = a.length := by omega
        refine Ev.step (fun k => by rw [cohousingref22_Ints.l0]) (evNeg (by omega) ?_)
        rw [List.take_length, hl', List.take_length] at he
        rw [decide_eq_true he]; exact Ev.now _
      | succ d ih =>
        intro i hd hi he
        have hlt : i < a.length := by omega
        refine Ev.step (fun k => by rw [cohousingref22_Ints.l0]) (evPos (by omega) (evPos (by omega) (evPos (by omega) ?_)))
        by_cases hx : rd a (i : Int) = rd b (i : Int)
        · refine evPos hx ?_
          rw [wrap_succ hlt (by omega)]
          exact ih (i + 1) (by omega) (by omega) (by rw [rd_take_succ hlt, rd_take_succ (show i < b.length by omega), he, hx])
        · refine evNeg hx ?_
          rw [decide_eq_false (fun e => hx (by rw [e]))]; exact Ev.now _
    exact h a.length 0 rfl (Nat.zero_le _) rfl
  · refine evNeg hl ?_
    rw [decide_eq_false (fun e => hl (by rw [e]))]; exact Ev.now _
end Go.Proofs.YtfkeelccnomjkaaDoor.P
