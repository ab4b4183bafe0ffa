/- The contract of ledger.Valid: as index says. -/
import Derived.Test.YtnheelncgpgkiaaGIndex
namespace Go.Proofs.Ytnheelncgpgkiaa.P
open Go.RowKit Go.Proofs.YtnheelncgpgkiaaW.PrintWords Go.Proofs.YtnheelncgpgkiaaW.PrintLast Go.Proofs.YtnheelncgpgkiaaW.PrintMore Go.Proofs.Ytnheelncgpgkiaa.M
set_option linter.unusedVariables false
set_option linter.unusedSimpArgs false

def ledger_Valid.f (l0 : List S24) : Option Bool := if l0.all smallE = true then some (validL l0) else none
set_option maxHeartbeats 8000000 in
set_option maxRecDepth 100000 in
theorem ledger_Valid.calls (A0 : Option Addr) (c0 : Nat) (l0 : List S24) (r : Bool) (w : World) (hr0 : Kd.C k24 w A0 l0.length l0) (hc0 : l0.length ≤ c0) (h : ledger_Valid.f l0 = some r) :
    Calls Try.prog 15 #[.slice A0 l0.length c0] w fun e w' => e = .returned (.bool r) ∧ Below w.heap.size w w' := by
  unfold ledger_Valid.f at h
  by_cases hs : l0.all smallE = true
  · rw [if_pos hs] at h
    obtain rfl := Option.some.inj h
    have hI := Aside0.mk (ledger_index_calls A0 c0 l0 w hr0 hc0 hs)
    clear hr0 hc0 hs h
    go_enter Try.func15, Try.ntmps15
    go_wp2_with (go_at_call 27; (with_reducible refine hI.out.mono ?_); rintro e w1 ⟨mb, rfl, hb, _⟩)
    go_ret
    exact ⟨rfl, hb⟩
  · rw [if_neg hs] at h; cases h
end Go.Proofs.Ytnheelncgpgkiaa.P
