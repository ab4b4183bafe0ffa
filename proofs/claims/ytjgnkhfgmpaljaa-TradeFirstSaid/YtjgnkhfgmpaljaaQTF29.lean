/- Lemmas, readings of functions as plain Lean functions and contracts of functions of the program, for the claimed theorem; each one's conditions stand in its statement. -/
import Derived.Test.YtjgnkhfgmpaljaaQTF26
import Derived.Test.YtjgnkhfgmpaljaaQTF28
namespace Go.Proofs.Ytjgnkhfgmpaljaa.P
set_option linter.unusedSimpArgs false
set_option linter.unusedVariables false
open Go.RowKit Go.Proofs.YtjgnkhfgmpaljaaW.PrintWords Go.Proofs.Ytjgnkhfgmpaljaa.M
theorem wfI_ok {x : Int} (h : wfI x) : okI x := by
  unfold wfI at h; unfold okI
  have h1 : IntKind.i64.min = -9223372036854775808 := by decide
  have h2 : IntKind.i64.max = 9223372036854775807 := by decide
  simp [Lit.wf] at h
  omega
theorem TradeFirst_pure (F : List S53) (P : List S41) (ord : List Int) (w0 : wf25 ⟨F, P⟩) (w1 : wfL ord) : ∃ k, cohousinglaw24_TradeFirst.f k F P ord = some true := by
  obtain ⟨K, h⟩ := first_pure F P ord (fun x hx => ⟨wfI_ok (w0.1.2 x hx).1, wfI_ok (w0.1.2 x hx).2⟩) (fun p hp => ⟨wfI_ok (w0.2.2 p hp).2.1, fun f hf => wfI_ok ((w0.2.2 p hp).2.2.2 f hf)⟩)
  exact ⟨K, h K (Nat.le_refl _)⟩
end Go.Proofs.Ytjgnkhfgmpaljaa.P
