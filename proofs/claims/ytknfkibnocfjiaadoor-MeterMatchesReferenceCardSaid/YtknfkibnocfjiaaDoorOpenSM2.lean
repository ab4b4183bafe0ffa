/- What lists of small numbers and of bools read as. -/
import Derived.Test.YtknfkibnocfjiaaDoorOpenSM
namespace Go.Proofs.YtknfkibnocfjiaaDoor.P
open Go.RowKit Go.Proofs.YtknfkibnocfjiaaDoorW.PrintWords Go.Proofs.YtknfkibnocfjiaaDoor.M
theorem opens_T48 : Opens Tryd.prog 48 (Kd.slice 47 (Kd.int .u16)) (fun l => l.length ≤ maxLen ∧ ∀ x ∈ l, (Lit.int .u16 x).wf = true) := opens_slice Tryd.underlying48 (opens_int Tryd.underlying47) (by kernel_rfl)
theorem opens_T49 : Opens Tryd.prog 49 (Kd.slice 5 (Kd.int .u8)) (fun l => l.length ≤ maxLen ∧ ∀ x ∈ l, (Lit.int .u8 x).wf = true) := opens_slice Tryd.underlying49 (opens_int Tryd.underlying5) (by kernel_rfl)
theorem opens_T50 : Opens Tryd.prog 50 (Kd.slice 4 Kd.bool) (fun l => l.length ≤ maxLen ∧ ∀ x ∈ l, True) := opens_slice Tryd.underlying50 (opens_bool Tryd.underlying4) (by kernel_rfl)
end Go.Proofs.YtknfkibnocfjiaaDoor.P
