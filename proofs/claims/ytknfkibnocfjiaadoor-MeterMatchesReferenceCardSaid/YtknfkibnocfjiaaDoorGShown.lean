/- The variable powers, as the walks hold it, and the contract of meter.shown. -/
import Derived.Test.YtknfkibnocfjiaaDoorGCollect
namespace Go.Proofs.YtknfkibnocfjiaaDoor.P
open Go.RowKit Go.Proofs.YtknfkibnocfjiaaDoorW.PrintWords Go.Proofs.YtknfkibnocfjiaaDoorW.PrintLast Go.Proofs.YtknfkibnocfjiaaDoorW.PrintMore Go.Proofs.YtknfkibnocfjiaaDoor.M
set_option linter.unusedVariables false
set_option linter.unusedSimpArgs false

def pow10 (d : Int) : Int := (10 : Int) ^ d.toNat
/-- The variable powers holds the powers of ten. -/
def Gl (w : World) : Prop := ∀ i : Nat, i < 7 → w.cell? ⟨0, i, none⟩ = some (.int .i64 ((10 : Int) ^ i))
theorem Gl.below {w w1 : World} (h : Gl w) (hb : Below w.heap.size w w1) : Gl w1 := fun i hi => (hb.cell (World.block_lt_of_cell? w _ (h i hi))).trans (h i hi)
theorem Gl.alloc {w : World} (h : Gl w) (o : Obj) : Gl (w.alloc o) := h.below (below_alloc (Below.refl _ _) o)
theorem Gl.at_ {w : World} (h : Gl w) {d : Int} (h0 : 0 ≤ d) (h7 : d < 7) : w.cell? ⟨0, d.toNat, none⟩ = some (.int .i64 (pow10 d)) := h d.toNat (by omega)
/-- By how much a meter grew from one value to the next. -/
def shownF (p a b : Int) : Int := if b - a < 0 then b - a + p else b - a
theorem pow10_bound {d : Int} (h0 : 0 ≤ d) (h6 : d ≤ 6) : 1 ≤ pow10 d ∧ pow10 d ≤ 1000000 := by
  have : d = 0 ∨ d = 1 ∨ d = 2 ∨ d = 3 ∨ d = 4 ∨ d = 5 ∨ d = 6 := by omega
  rcases this with rfl | rfl | rfl | rfl | rfl | rfl | rfl <;> decide

set_option maxHeartbeats 8000000 in
set_option maxRecDepth 100000 in
theorem meter_shown_calls (m : S25) (a b : S43) (w : World) (hg : Gl w) (hd : 0 ≤ m.f1 ∧ m.f1 ≤ 6) (ha : 0 ≤ a.f2 ∧ a.f2 ≤ 999999) (hb : 0 ≤ b.f2 ∧ b.f2 ≤ 999999) :
    Calls Tryd.prog 30 #[.agg #[.int .i64 m.f0, .int .i64 m.f1, .int .i64 m.f2, .int .i64 m.f3, .int .i64 m.f4.f0, .int .i64 m.f4.f1], .agg #[.int .i64 a.f0, .int .i64 a.f1, .int .i64 a.f2, .int .i64 a.f3], .agg #[.int .i64 b.f0, .int .i64 b.f1, .int .i64 b.f2, .int .i64 b.f3]] w fun e w' => e = .returned (.int .i64 (shownF (pow10 m.f1) a.f2 b.f2)) ∧ Below w.heap.size w w' := by
  have hu43 := Tryd.underlying43
  have hu25 := Tryd.underlying25
  have HB : Aside0 (Below w.heap.size w (((w.alloc (.cells #[.int .i64 m.f0, .int .i64 m.f1, .int .i64 m.f2, .int .i64 m.f3, .int .i64 m.f4.f0, .int .i64 m.f4.f1] 25)).alloc (.cells #[.int .i64 a.f0, .int .i64 a.f1, .int .i64 a.f2, .int .i64 a.f3] 43)).alloc (.cells #[.int .i64 b.f0, .int .i64 b.f1, .int .i64 b.f2, .int .i64 b.f3] 43))) := ⟨below_alloc (below_alloc (below_alloc (Below.refl _ _) _) _) _⟩
  have hp := pow10_bound hd.1 hd.2
  have hc := (hg.below HB.out).at_ hd.1 (by omega)
  have hbd : (m.f1 : Int) < 7 := by omega
  clear hg
  generalize pow10 m.f1 = p at *
  by_cases hlt : b.f2 - a.f2 < 0
  · have e1 : decide (b.f2 - a.f2 < 0) = true := decide_eq_true hlt
    have HE : Aside0 (shownF p a.f2 b.f2 = b.f2 - a.f2 + p) := ⟨by unfold shownF; rw [if_pos hlt]⟩
    go_enter Tryd.func30, Tryd.ntmps30
    go_wp2
    go_ret
    exact ⟨by rw [HE.out]; rfl, HB.out⟩
  · have e1 : decide (b.f2 - a.f2 < 0) = false := decide_eq_false hlt
    have HE : Aside0 (shownF p a.f2 b.f2 = b.f2 - a.f2) := ⟨by unfold shownF; rw [if_neg hlt]⟩
    go_enter Tryd.func30, Tryd.ntmps30
    go_wp2
    go_ret
    exact ⟨by rw [HE.out]; rfl, HB.out⟩
end Go.Proofs.YtknfkibnocfjiaaDoor.P
