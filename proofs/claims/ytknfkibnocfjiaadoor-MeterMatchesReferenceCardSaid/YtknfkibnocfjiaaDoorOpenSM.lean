/- What meters, spans, readings and lists of them read as, within the types' bounds; the variable powers as a row lists it. -/
import Derived.Test.YtknfkibnocfjiaaDoorOpenK
import Derived.Test.YtknfkibnocfjiaaDoorGShown
import Derived.Test.YtknfkibnocfjiaaDoorCards
import Derived.Deep.DeepHandedRow
import Derived.Lib.LaidTab
import Derived.ShutString
import Derived.ChangeOld
namespace Go.Proofs.YtknfkibnocfjiaaDoor.P
open Go.RowKit Go.Proofs.YtknfkibnocfjiaaDoorW.PrintWords Go.Proofs.YtknfkibnocfjiaaDoor.M
set_option linter.unusedVariables false
def wfSpan (x : S23) : Prop := (Lit.int .i64 x.f0).wf = true ∧ (Lit.int .i64 x.f1).wf = true
theorem opens_T23 : Opens Tryd.prog 23 k23 wfSpan :=
  opens_struct (stop := 2) Tryd.underlying23 (by kernel_rfl) (opensF_cons (opens_int Tryd.underlying3) rfl (by kernel_rfl) (opensF_one (opens_int Tryd.underlying3) rfl (by kernel_rfl)))
    (fun x : S23 => (x.f0, x.f1)) (fun y => ⟨y.1, y.2⟩) (fun _ => rfl)
def wfM (x : S25) : Prop := (Lit.int .i64 x.f0).wf = true ∧ (Lit.int .i64 x.f1).wf = true ∧ (Lit.int .i64 x.f2).wf = true ∧ (Lit.int .i64 x.f3).wf = true ∧ wfSpan x.f4
theorem opens_T25 : Opens Tryd.prog 25 k25 wfM :=
  opens_struct (stop := 6) Tryd.underlying25 (by kernel_rfl) (opensF_cons (opens_int Tryd.underlying3) rfl (by kernel_rfl) (opensF_cons (opens_int Tryd.underlying3) rfl (by kernel_rfl) (opensF_cons (opens_int Tryd.underlying3) rfl (by kernel_rfl)
    (opensF_cons (opens_int Tryd.underlying3) rfl (by kernel_rfl) (opensF_one opens_T23 rfl (by kernel_rfl))))))
    (fun x : S25 => (x.f0, x.f1, x.f2, x.f3, x.f4)) (fun y => ⟨y.1, y.2.1, y.2.2.1, y.2.2.2.1, y.2.2.2.2⟩) (fun _ => rfl)
def wfR (x : S43) : Prop := (Lit.int .i64 x.f0).wf = true ∧ (Lit.int .i64 x.f1).wf = true ∧ (Lit.int .i64 x.f2).wf = true ∧ (Lit.int .i64 x.f3).wf = true
theorem opens_T43 : Opens Tryd.prog 43 k43 wfR :=
  opens_struct (stop := 4) Tryd.underlying43 (by kernel_rfl) (opensF_cons (opens_int Tryd.underlying3) rfl (by kernel_rfl) (opensF_cons (opens_int Tryd.underlying3) rfl (by kernel_rfl) (opensF_cons (opens_int Tryd.underlying3) rfl (by kernel_rfl)
    (opensF_one (opens_int Tryd.underlying3) rfl (by kernel_rfl)))))
    (fun x : S43 => (x.f0, x.f1, x.f2, x.f3)) (fun y => ⟨y.1, y.2.1, y.2.2.1, y.2.2.2⟩) (fun _ => rfl)
theorem opens_T27 : Opens Tryd.prog 27 (Kd.slice 43 k43) (fun l => l.length ≤ maxLen ∧ ∀ x ∈ l, wfR x) := opens_slice Tryd.underlying27 opens_T43 (by kernel_rfl)
theorem opens_T26 : Opens Tryd.prog 26 (Kd.slice 25 k25) (fun l => l.length ≤ maxLen ∧ ∀ x ∈ l, wfM x) := opens_slice Tryd.underlying26 opens_T25 (by kernel_rfl)
theorem gTab : Tryd.prog.globalNamed "cohousing/meter.powers" = some 0 := by kernel_rfl
theorem gTabType : (Tryd.prog.globals[0]?).map (·.type) = some 68 := by kernel_rfl
theorem cellsTab : Tryd.prog.cellsOf 68 = 7 := by kernel_rfl
theorem cellsInt : Tryd.prog.cellsOf 3 = 1 := by kernel_rfl
/-- What a row's list gives: the variable holds the powers of ten. -/
theorem gl_of {W : World} (h : laidMetH Tryd.prog [("cohousing/meter.powers", Rows.laid_cohousing_meter_powers)] W) : Gl W := by
  have t : Lib.TabIs Tryd.prog W "cohousing/meter.powers" .i64 [1, 10, 100, 1000, 10000, 100000, 1000000] := Lib.tabIs_of_head (rest := []) gTab gTabType Tryd.underlying68 Tryd.underlying3 cellsInt cellsTab h
  intro i hi
  have h7 : i = 0 ∨ i = 1 ∨ i = 2 ∨ i = 3 ∨ i = 4 ∨ i = 5 ∨ i = 6 := by omega
  rcases h7 with rfl | rfl | rfl | rfl | rfl | rfl | rfl
  · exact (t.cell gTab 0 (by decide)).trans rfl
  · exact (t.cell gTab 1 (by decide)).trans rfl
  · exact (t.cell gTab 2 (by decide)).trans rfl
  · exact (t.cell gTab 3 (by decide)).trans rfl
  · exact (t.cell gTab 4 (by decide)).trans rfl
  · exact (t.cell gTab 5 (by decide)).trans rfl
  · exact (t.cell gTab 6 (by decide)).trans rfl
/-- A world for the witness: the settled one, the variable holding what its initialiser lays. -/
noncomputable def laidWorld (os : Os) : World :=
  { World.holding Tryd.prog os ⟨#[], #[], []⟩ with heap := (World.holding Tryd.prog os ⟨#[], #[], []⟩).heap.modify 0 fun
      | .cells _ t frozen => .cells #[.int .i64 1, .int .i64 10, .int .i64 100, .int .i64 1000, .int .i64 10000, .int .i64 100000, .int .i64 1000000] t frozen
      | o => o }
theorem wf_u8_bd {a : Int} (h : (Lit.int .u8 a).wf = true) : 0 ≤ a ∧ a ≤ 255 := by
  simp only [Lit.wf, Bool.and_eq_true, decide_eq_true_eq] at h
  exact ⟨h.1, h.2⟩
end Go.Proofs.YtknfkibnocfjiaaDoor.P
