/- Lemmas, readings of functions as plain Lean functions and contracts of functions of the program, for the claimed theorem; each one's conditions stand in its statement. -/
import Derived.Test.YtjgnkhfgmpaljaaQTD31
import Derived.Test.YtjgnkhfgmpaljaaQTD24
namespace Go.Proofs.Ytjgnkhfgmpaljaa.P
set_option linter.unusedSimpArgs false
open Go.RowKit
theorem wfI_okI {x:Int} (h:wfI x):okI x:=by
  unfold wfI at h;unfold okI
  have h1:IntKind.i64.min = -9223372036854775808:=by decide
  have h2:IntKind.i64.max=9223372036854775807:=by decide
  simp [Lit.wf] at h
  omega
end Go.Proofs.Ytjgnkhfgmpaljaa.P
