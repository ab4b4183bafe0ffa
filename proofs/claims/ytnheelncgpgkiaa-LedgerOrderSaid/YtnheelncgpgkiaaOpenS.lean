/- What an entry, and a list of entries, read as, within the types' bounds. -/
import Derived.Test.YtnheelncgpgkiaaOpenK
import Derived.Test.YtnheelncgpgkiaaPR1
namespace Go.Proofs.Ytnheelncgpgkiaa.P
open Go.RowKit Go.Proofs.YtnheelncgpgkiaaW.PrintWords Go.Proofs.Ytnheelncgpgkiaa.M
set_option linter.unusedVariables false
def wfE (x : S24) : Prop := ((Lit.int .i64 x.f0).wf = true ∧ (Lit.int .i64 x.f1).wf = true ∧ (Lit.int .i64 x.f2).wf = true ∧ (Lit.int .i64 x.f3).wf = true ∧ x.f4.size ≤ maxLen ∧ x.f5.size ≤ maxLen)
theorem opens_T24 : Opens Try.prog 24 k24 wfE :=
  opens_struct (stop := 6) Try.underlying24 (by kernel_rfl) (opensF_cons (opens_int Try.underlying3) rfl (by kernel_rfl) (opensF_cons (opens_int Try.underlying3) rfl (by kernel_rfl) (opensF_cons (opens_int Try.underlying3) rfl (by kernel_rfl)
    (opensF_cons (opens_int Try.underlying3) rfl (by kernel_rfl) (opensF_cons (opens_string Try.underlying9) rfl (by kernel_rfl) (opensF_one (opens_string Try.underlying9) rfl (by kernel_rfl)))))))
    (fun x : S24 => (x.f0, x.f1, x.f2, x.f3, x.f4, x.f5)) (fun y => ⟨y.1, y.2.1, y.2.2.1, y.2.2.2.1, y.2.2.2.2.1, y.2.2.2.2.2⟩) (fun _ => rfl)
theorem opens_T22 : Opens Try.prog 22 (Kd.slice 24 k24) (fun l => l.length ≤ maxLen ∧ ∀ x ∈ l, wfE x) := opens_slice Try.underlying22 opens_T24 (by kernel_rfl)
end Go.Proofs.Ytnheelncgpgkiaa.P
