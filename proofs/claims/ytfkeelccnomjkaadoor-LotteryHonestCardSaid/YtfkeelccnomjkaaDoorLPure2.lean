/- What some picks; the shares that Deal returns. -/
import Derived.Test.YtfkeelccnomjkaaDoorLPure
import Derived.Test.YtfkeelccnomjkaaDoorGSome
namespace Go.Proofs.YtfkeelccnomjkaaDoor.P
open Go.RowKit Go.Proofs.YtfkeelccnomjkaaDoorW.PrintWords Go.Proofs.YtfkeelccnomjkaaDoorW.PrintLast Go.Proofs.YtfkeelccnomjkaaDoorW.PrintMore Go.Proofs.YtfkeelccnomjkaaDoor.M Go.Proofs.YtfkeelccnomjkaaDoor.QF
set_option linter.unusedVariables false
set_option linter.unusedSimpArgs false
theorem dealSh_mem {v : Int} {coefs : List Int} {m : Nat} {s : S47} (h : s ∈ dealSh v coefs m) : ∃ i : Nat, i < m ∧ s = ⟨(i : Int) + 1, atF (v :: coefs) ((i : Int) + 1)⟩ := by
  unfold dealSh at h
  obtain ⟨i, hi, rfl⟩ := List.mem_map.1 h
  exact ⟨i, List.mem_range.1 hi, rfl⟩
theorem dealSh_nodup (v : Int) (coefs : List Int) (m : Nat) : (ptsL (dealSh v coefs m)).Nodup := by
  unfold ptsL dealSh
  rw [List.map_map]
  refine List.Pairwise.map _ (fun a b (hab : a ≠ b) => ?_) (List.nodup_iff_pairwise_ne.1 List.nodup_range)
  show ((a : Int) + 1) ≠ ((b : Int) + 1)
  omega
theorem dealSh_ok {v : Int} {coefs : List Int} {m : Nat} (hm : m ≤ 16) : (dealSh v coefs m).all okS = true := by
  rw [List.all_eq_true]
  intro s hs
  obtain ⟨i, hi, rfl⟩ := dealSh_mem hs
  exact okS_iff.2 ⟨by show 1 ≤ (i : Int) + 1 ∧ (i : Int) + 1 ≤ 16; omega, atF_rs _ _⟩
theorem dealSh_on (v : Int) (coefs : List Int) (m : Nat) : onPoly (v :: coefs) (dealSh v coefs m) := by
  intro s hs
  obtain ⟨i, hi, rfl⟩ := dealSh_mem hs
  rfl
end Go.Proofs.YtfkeelccnomjkaaDoor.P
