/- made, where no history comes of it. -/
import Derived.Test.YtknfkibnocfjiaaDoorGMade
namespace Go.Proofs.YtknfkibnocfjiaaDoor.P
open Go.RowKit Go.Proofs.YtknfkibnocfjiaaDoorW.PrintWords Go.Proofs.YtknfkibnocfjiaaDoorW.PrintLast Go.Proofs.YtknfkibnocfjiaaDoorW.PrintMore Go.Proofs.YtknfkibnocfjiaaDoor.M
set_option linter.unusedVariables false
set_option linter.unusedSimpArgs false
/-- The meter of a history: its days are as many as what was shown. -/
def hM (x : S25) (n : Nat) : S25 := ⟨x.f0, x.f1, x.f2, x.f3, ⟨x.f4.f0, x.f4.f0 + n⟩⟩
/-- Does a history come of it? -/
def okMade (x : S25) (n : Nat) : Bool := decide (1 ≤ n) && decide (n ≤ 30) && decide (x.f4.f0 ≤ 36524) && validM (hM x n)
set_option maxHeartbeats 16000000 in
set_option maxRecDepth 100000 in
theorem made_no (x : S25) (st : Int) (A2 : Option Addr) (c2 n2 : Nat) (A3 : Option Addr) (c3 n3 : Nat) (A4 : Option Addr) (c4 n4 : Nat) (w : World)
    (wx : (Lit.int .i64 x.f4.f0).wf = true) (hn : n2 ≤ maxLen) (h : okMade x n2 = false) :
    Calls Tryd.prog 22 #[.agg #[.int .i64 x.f0, .int .i64 x.f1, .int .i64 x.f2, .int .i64 x.f3, .int .i64 x.f4.f0, .int .i64 x.f4.f1], .int .u16 st, .slice A2 n2 c2, .slice A3 n3 c3, .slice A4 n4 c4] w
      fun e w' => e = .returned (.tuple #[.agg cZ, .bool false]) ∧ Below w.heap.size w w' := by
  have hu25 := Tryd.underlying25
  have hu23 := Tryd.underlying23
  have hu53 := Tryd.underlying53
  have hwx : -9223372036854775808 ≤ x.f4.f0 ∧ x.f4.f0 ≤ 9223372036854775807 := by
    simp only [Lit.wf, Bool.and_eq_true, decide_eq_true_eq] at wx
    exact wx
  have hml : n2 ≤ 9223372036854775807 := hn
  clear wx hn
  have hfin : ∀ W : World, Below w.heap.size w W → W.heap[w.heap.size + 1]? = some (.cells cZ 53 (0, 0)) → ∀ a : Act, a.defers = [] → a.tmps.getD 10 undef = .pointer (some ⟨w.heap.size + 1, 0, none⟩) → a.tmps.getD 11 undef = .bool false →
      bodyPost Tryd.prog Tryd.f22 (fun e w' => e = .returned (.tuple #[.agg cZ, .bool false]) ∧ Below w.heap.size w w') .ret a W := by
    intro W hb hz a hd h10 h11
    refine bodyPost_ret (v := .tuple #[.agg cZ, .bool false]) ?_ hd ⟨rfl, hb⟩
    have := results_ct (P := Tryd.prog) (fn := Tryd.f22) (p := 10) (u := 11) (ty := 53) rfl a.tmps W (w.heap.size + 1) 53 cZ (0, 0) _ h10 hz hu53 rfl (by kernel_rfl)
    rw [h11] at this
    exact this
  have HF := Aside0.mk hfin
  clear hfin
  by_cases h1 : n2 < 1
  · obtain rfl : n2 = 0 := by omega
    clear h
    go_enter Tryd.func22, Tryd.ntmps22
    go_wp2
    exact HF.out _ (below_alloc (below_alloc (Below.refl _ _) _) _) (blk_p1 w _ _) _ rfl rfl rfl
  · have g1 : decide ((n2 : Int) < 1) = false := decide_eq_false (by omega)
    have g1' : decide (n2 < 1) = false := decide_eq_false h1
    have g1'' : decide (n2 = 0) = false := decide_eq_false (by omega)
    by_cases h2 : 30 < n2
    · have g2 : decide (30 < (n2 : Int)) = true := decide_eq_true (by omega)
      have g2' : decide (30 < n2) = true := decide_eq_true h2
      clear h
      generalize IntKind.i64.wrap (x.f4.f0 + (n2 : Int)) = u at *
      go_enter Tryd.func22, Tryd.ntmps22
      go_wp2
      exact HF.out _ (below_alloc (below_alloc (Below.refl _ _) _) _) (blk_p1 w _ _) _ rfl rfl rfl
    · have g2 : decide (30 < (n2 : Int)) = false := decide_eq_false (by omega)
      have g2' : decide (30 < n2) = false := decide_eq_false h2
      by_cases h3 : 36524 < x.f4.f0
      · have g3 : decide (36524 < x.f4.f0) = true := decide_eq_true h3
        clear h
        go_enter Tryd.func22, Tryd.ntmps22
        go_wp2
        exact HF.out _ (below_alloc (below_alloc (Below.refl _ _) _) _) (blk_p1 w _ _) _ rfl rfl rfl
      · have g3 : decide (36524 < x.f4.f0) = false := decide_eq_false h3
        have hv : validM (hM x n2) = false := by
          unfold okMade at h
          rw [decide_eq_true (show 1 ≤ n2 by omega), decide_eq_true (show n2 ≤ 30 by omega), decide_eq_true (show x.f4.f0 ≤ 36524 by omega)] at h
          exact h
        have hw : IntKind.i64.wrap (x.f4.f0 + (n2 : Int)) = x.f4.f0 + (n2 : Int) := Go.IntWalk.i64_in _ (by omega)
        have HC : Aside0 (∀ W, Calls Tryd.prog 31 #[.agg #[.int .i64 x.f0, .int .i64 x.f1, .int .i64 x.f2, .int .i64 x.f3, .int .i64 x.f4.f0, .int .i64 (x.f4.f0 + n2)]] W fun e w' => e = .returned (.bool false) ∧ Below W.heap.size W w') :=
          ⟨fun W => rmeter_calls (hM x n2) false hv W⟩
        clear h hv
        go_enter Tryd.func22, Tryd.ntmps22
        go_wp2_with (first | (go_at_call 31; (with_reducible refine (HC.out _).mono ?_); rintro e1 w1 ⟨rfl, hb1⟩; have HB1 := Aside0.mk hb1; have bz : w1.heap[w.heap.size + 1]? = some (.cells cZ 53 (0, 0)) := blk_below (blk_p1 w _ _) hb1; have HZ := Aside0.mk bz; clear hb1; have z0 : w1.cell? ⟨w.heap.size + 1, 0, none⟩ = some (.int .i64 0) := (blk_cell bz 0).trans rfl; have f0 := blk_frozen bz 0; have z1 : w1.cell? ⟨w.heap.size + 1, 1, none⟩ = some (.int .i64 0) := (blk_cell bz 1).trans rfl; have f1 := blk_frozen bz 1; have z2 : w1.cell? ⟨w.heap.size + 1, 2, none⟩ = some (.int .i64 0) := (blk_cell bz 2).trans rfl; have f2 := blk_frozen bz 2; have z3 : w1.cell? ⟨w.heap.size + 1, 3, none⟩ = some (.int .i64 0) := (blk_cell bz 3).trans rfl; have f3 := blk_frozen bz 3; have z4 : w1.cell? ⟨w.heap.size + 1, 4, none⟩ = some (.int .i64 0) := (blk_cell bz 4).trans rfl; have f4 := blk_frozen bz 4; have z5 : w1.cell? ⟨w.heap.size + 1, 5, none⟩ = some (.int .i64 0) := (blk_cell bz 5).trans rfl; have f5 := blk_frozen bz 5; have z6 : w1.cell? ⟨w.heap.size + 1, 6, none⟩ = some (.slice none 0 0) := (blk_cell bz 6).trans rfl; have f6 := blk_frozen bz 6; have z7 : w1.cell? ⟨w.heap.size + 1, 7, none⟩ = some (.slice none 0 0) := (blk_cell bz 7).trans rfl; have f7 := blk_frozen bz 7; have z8 : w1.cell? ⟨w.heap.size + 1, 8, none⟩ = some (.slice none 0 0) := (blk_cell bz 8).trans rfl; have f8 := blk_frozen bz 8; have z9 : w1.cell? ⟨w.heap.size + 1, 9, none⟩ = some (.slice none 0 0) := (blk_cell bz 9).trans rfl; have f9 := blk_frozen bz 9; clear bz))
        have b1 := blk_put (cs' := cZ) HZ.out 0 (.int .i64 0) rfl; have b2 := blk_put (cs' := cZ) b1 1 (.int .i64 0) rfl; have b3 := blk_put (cs' := cZ) b2 2 (.int .i64 0) rfl; have b4 := blk_put (cs' := cZ) b3 3 (.int .i64 0) rfl; have b5 := blk_put (cs' := cZ) b4 4 (.int .i64 0) rfl; have b6 := blk_put (cs' := cZ) b5 5 (.int .i64 0) rfl; have b7 := blk_put (cs' := cZ) b6 6 (.slice none 0 0) rfl; have b8 := blk_put (cs' := cZ) b7 7 (.slice none 0 0) rfl; have b9 := blk_put (cs' := cZ) b8 8 (.slice none 0 0) rfl; have b10 := blk_put (cs' := cZ) b9 9 (.slice none 0 0) rfl
        have l1 := below_set (j := 0) (v := .int .i64 0) (below_step (below_alloc (below_alloc (Below.refl _ _) _) _) HB1.out) (show w.heap.size ≤ w.heap.size + 1 by omega); have l2 := below_set (j := 1) (v := .int .i64 0) l1 (show w.heap.size ≤ w.heap.size + 1 by omega); have l3 := below_set (j := 2) (v := .int .i64 0) l2 (show w.heap.size ≤ w.heap.size + 1 by omega); have l4 := below_set (j := 3) (v := .int .i64 0) l3 (show w.heap.size ≤ w.heap.size + 1 by omega); have l5 := below_set (j := 4) (v := .int .i64 0) l4 (show w.heap.size ≤ w.heap.size + 1 by omega); have l6 := below_set (j := 5) (v := .int .i64 0) l5 (show w.heap.size ≤ w.heap.size + 1 by omega); have l7 := below_set (j := 6) (v := .slice none 0 0) l6 (show w.heap.size ≤ w.heap.size + 1 by omega); have l8 := below_set (j := 7) (v := .slice none 0 0) l7 (show w.heap.size ≤ w.heap.size + 1 by omega); have l9 := below_set (j := 8) (v := .slice none 0 0) l8 (show w.heap.size ≤ w.heap.size + 1 by omega); have l10 := below_set (j := 9) (v := .slice none 0 0) l9 (show w.heap.size ≤ w.heap.size + 1 by omega)
        exact HF.out _ l10 b10 _ rfl rfl rfl
end Go.Proofs.YtknfkibnocfjiaaDoor.P
