/- The contract of Same of the reference implementation, at one list given twice. -/
import Derived.Test.YtknfkibnocfjiaaDoorLawBase
import Derived.Test.YtknfkibnocfjiaaDoorPR1
namespace Go.Proofs.YtknfkibnocfjiaaDoor.P
open Go.RowKit Go.Proofs.YtknfkibnocfjiaaDoorW.PrintWords Go.Proofs.YtknfkibnocfjiaaDoorW.PrintLast Go.Proofs.YtknfkibnocfjiaaDoorW.PrintMore Go.Proofs.YtknfkibnocfjiaaDoor.M
set_option linter.unusedVariables false
set_option linter.unusedSimpArgs false

theorem rsame_loop (l : List S43) (hl : l.length ≤ 9223372036854775807) : ∀ n i : Nat, i + n = l.length → Ev (fun k => cohousingref27_Same.l0 k l l (i : Int)) true := by
  intro n
  induction n with
  | zero =>
    intro i hi
    refine Ev.step (fun k => by rw [cohousingref27_Same.l0]) ?_
    exact evNeg (by omega) (Ev.now _)
  | succ n ih =>
    intro i hi
    have hlt : i < l.length := by omega
    refine Ev.step (fun k => by rw [cohousingref27_Same.l0]) ?_
    refine evPos (by omega) (evPos (by omega) (evPos (by omega) ?_))
    refine evNeg (by simp) ?_
    rw [wrap_succ hlt hl]
    exact ih (i + 1) (by omega)
theorem rsame_ev (l : List S43) (hl : l.length ≤ 9223372036854775807) : Ev (fun k => cohousingref27_Same.f k l l) true :=
  Ev.congr (fun k => by unfold cohousingref27_Same.f; rw [if_pos rfl]; rfl) (rsame_loop l hl l.length 0 (by omega))
theorem rsame_calls (A0 : Option Addr) (c0 : Nat) (A1 : Option Addr) (c1 : Nat) (l : List S43) (w : World) (hr0 : Kd.C k43 w A0 l.length l) (hc0 : l.length ≤ c0) (hr1 : Kd.C k43 w A1 l.length l) (hc1 : l.length ≤ c1) :
    Calls Tryd.prog 17 #[.slice A0 l.length c0, .slice A1 l.length c1] w fun e w' => e = .returned (.bool true) ∧ Below w.heap.size w w' := by
  obtain ⟨k, hk⟩ := (rsame_ev l hr0.2.1).rounds
  exact (cohousingref27_Same.calls k A0 c0 l A1 c1 l true w hr0 hc0 hr1 hc1 hk).mono fun e w' h => ⟨h.1, h.2.below⟩
end Go.Proofs.YtknfkibnocfjiaaDoor.P
