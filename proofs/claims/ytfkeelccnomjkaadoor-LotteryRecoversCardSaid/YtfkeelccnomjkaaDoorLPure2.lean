/- What some picks; the shares that Deal returns. -/
import Derived.Test.YtfkeelccnomjkaaDoorLPure
import Derived.Test.YtfkeelccnomjkaaDoorGSome
namespace Go.Proofs.YtfkeelccnomjkaaDoor.P
open Go.RowKit Go.Proofs.YtfkeelccnomjkaaDoorW.PrintWords Go.Proofs.YtfkeelccnomjkaaDoorW.PrintLast Go.Proofs.YtfkeelccnomjkaaDoorW.PrintMore Go.Proofs.YtfkeelccnomjkaaDoor.M Go.Proofs.YtfkeelccnomjkaaDoor.QF
set_option linter.unusedVariables false
set_option linter.unusedSimpArgs false
theorem erase_perm {α : Type} {l : List α} {k : Nat} (h : k < l.length) : (l[k] :: l.eraseIdx k).Perm l := by
  rw [List.eraseIdx_eq_take_drop_succ]
  refine List.perm_middle.symm.trans ?_
  rw [← List.drop_eq_getElem_cons h, List.take_append_drop]
theorem someGo_spec (least : Int) (picks : List Int) : ∀ (n i : Nat) (rest out : List S47), rest.length = n → ∃ s t, someGo least picks n i rest out = out ++ s ∧ (s ++ t).Perm rest ∧ (least ≤ ((out ++ s).length : Int) ∨ t = [])
  | 0, i, rest, out, h => ⟨[], [], by unfold someGo; rw [List.append_nil], by rw [List.eq_nil_of_length_eq_zero h]; exact List.Perm.nil, .inr rfl⟩
  | n + 1, i, rest, out, h => by
    unfold someGo
    have hk := kAt_lt picks i (n := rest.length) (by omega)
    by_cases hc : (out.length : Int) < least ∨ i < picks.length
    · rw [if_pos hc]
      obtain ⟨s, t, h1, h2, h3⟩ := someGo_spec least picks n (i + 1) (rest.eraseIdx (kAt picks i rest.length)) (out ++ [rd_T47 rest (kAt picks i rest.length : Int)]) (by rw [List.length_eraseIdx_of_lt hk]; omega)
      refine ⟨rd_T47 rest (kAt picks i rest.length : Int) :: s, t, ?_, ?_, ?_⟩
      · rw [h1, List.append_assoc]; rfl
      · rw [List.cons_append]
        refine (h2.cons _).trans ?_
        rw [rd47_get hk]
        exact erase_perm hk
      · rw [List.append_assoc] at h3
        exact h3
    · rw [if_neg hc]
      exact ⟨[], rest, by rw [List.append_nil], by rw [List.nil_append], .inl (by rw [List.append_nil]; omega)⟩
theorem dealSh_mem {v : Int} {coefs : List Int} {m : Nat} {s : S47} (h : s ∈ dealSh v coefs m) : ∃ i : Nat, i < m ∧ s = ⟨(i : Int) + 1, atF (v :: coefs) ((i : Int) + 1)⟩ := by
  unfold dealSh at h
  obtain ⟨i, hi, rfl⟩ := List.mem_map.1 h
  exact ⟨i, List.mem_range.1 hi, rfl⟩
theorem dealSh_nodup (v : Int) (coefs : List Int) (m : Nat) : (ptsL (dealSh v coefs m)).Nodup := by
  unfold ptsL dealSh
  rw [List.map_map]
  refine List.Pairwise.map _ (fun a b (hab : a ≠ b) => ?_) (List.nodup_iff_pairwise_ne.1 List.nodup_range)
  show ((a : Int) + 1) ≠ ((b : Int) + 1)
  omega
theorem dealSh_ok {v : Int} {coefs : List Int} {m : Nat} (hm : m ≤ 16) : (dealSh v coefs m).all okS = true := by
  rw [List.all_eq_true]
  intro s hs
  obtain ⟨i, hi, rfl⟩ := dealSh_mem hs
  exact okS_iff.2 ⟨by show 1 ≤ (i : Int) + 1 ∧ (i : Int) + 1 ≤ 16; omega, atF_rs _ _⟩
theorem dealSh_on (v : Int) (coefs : List Int) (m : Nat) : onPoly (v :: coefs) (dealSh v coefs m) := by
  intro s hs
  obtain ⟨i, hi, rfl⟩ := dealSh_mem hs
  rfl
/-- Enough of the shares that were dealt recover the value. -/
theorem rec_some {v : Int} {coefs picks : List Int} {m : Nat} (hv : rs v) (hm : m ≤ 16) (hc : coefs.length < m) : recF (someL (dealSh v coefs m) ((coefs.length : Int) + 1) picks) = (v, 0) := by
  obtain ⟨s, t, h1, h2, h3⟩ := someGo_spec ((coefs.length : Int) + 1) picks (dealSh v coefs m).length 0 (dealSh v coefs m) [] rfl
  unfold someL
  rw [h1, List.nil_append]
  rw [List.nil_append] at h3
  have hlen := h2.length_eq
  rw [List.length_append, dealSh_len] at hlen
  have hsl : coefs.length + 1 ≤ s.length := by
    rcases h3 with h | rfl
    · omega
    · simp at hlen; omega
  have hsub : ∀ x ∈ s, x ∈ dealSh v coefs m := fun x hx => h2.mem_iff.1 (List.mem_append_left _ hx)
  have hnd : (ptsL s).Nodup := by
    have h4 : (ptsL (s ++ t)).Nodup := by
      unfold ptsL
      exact (h2.map _).nodup_iff.2 (dealSh_nodup v coefs m)
    unfold ptsL at h4 ⊢
    rw [List.map_append, List.nodup_append] at h4
    exact h4.1
  have hok : s.all okS = true := by
    rw [List.all_eq_true]
    exact fun x hx => List.all_eq_true.1 (dealSh_ok hm) x (hsub x hx)
  have h5 := recF_on (l := s) (f := v :: coefs) (by unfold inB; simp; omega) (by unfold sharesB; rw [hok, decide_eq_true hnd]; rfl) (by rw [List.length_cons]; exact hsl) (fun x hx => dealSh_on v coefs m x (hsub x hx))
  rw [h5, atF_zero coefs hv]
end Go.Proofs.YtfkeelccnomjkaaDoor.P
