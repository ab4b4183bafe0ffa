/- The contracts of meter.readings, of the closure in it, and of slices.ContainsFunc and slices.IndexFunc with it. -/
import Derived.Test.YtknfkibnocfjiaaDoorMSpec
import Derived.Test.YtknfkibnocfjiaaDoorPR1
import Derived.Test.YtknfkibnocfjiaaDoorMapLib
namespace Go.Proofs.YtknfkibnocfjiaaDoor.P
open Go.RowKit Go.Proofs.YtknfkibnocfjiaaDoorW.PrintWords Go.Proofs.YtknfkibnocfjiaaDoorW.PrintLast Go.Proofs.YtknfkibnocfjiaaDoorW.PrintMore Go.Proofs.YtknfkibnocfjiaaDoor.M
set_option linter.unusedVariables false
set_option linter.unusedSimpArgs false

theorem within_f (a b c : Int) : meter_within.f a b c = some (inB a b c) := by
  unfold meter_within.f inB
  by_cases h : b ≤ a
  · rw [if_pos h, decide_eq_true h, Bool.true_and]
  · rw [if_neg h, decide_eq_false h, Bool.false_and]

set_option maxHeartbeats 8000000 in
set_option maxRecDepth 100000 in
theorem readings1_calls (x : S43) (w : World) :
    Calls Tryd.prog 41 #[.agg #[.int .i64 x.f0, .int .i64 x.f1, .int .i64 x.f2, .int .i64 x.f3]] w fun e w' => e = .returned (.bool (!readingOk x)) ∧ Below w.heap.size w w' := by
  have hu43 := Tryd.underlying43
  have HB := Aside0.mk (below_alloc (Below.refl w.heap.size w) (.cells #[.int .i64 x.f0, .int .i64 x.f1, .int .i64 x.f2, .int .i64 x.f3] 43))
  have BK := Aside0.mk (blk_new w (.cells #[.int .i64 x.f0, .int .i64 x.f1, .int .i64 x.f2, .int .i64 x.f3] 43))
  have F1 := Aside0.mk (within_f x.f0 1 1000)
  have F2 := Aside0.mk (within_f x.f1 0 36524)
  have F3 := Aside0.mk (within_f x.f3 0 36524)
  have F4 := Aside0.mk (within_f x.f2 0 999999)
  unfold readingOk
  generalize inB x.f0 1 1000 = b1 at *
  generalize inB x.f1 0 36524 = b2 at *
  generalize inB x.f3 0 36524 = b3 at *
  generalize inB x.f2 0 999999 = b4 at *
  cases b1 with
  | false =>
    go_enter Tryd.func41, Tryd.ntmps41
    go_wp2_with (first
      | (go_at_call 28; (with_reducible refine (meter_within.calls x.f0 1 1000 false _ F1.out).mono ?_); rintro e w1 ⟨rfl, hd⟩; have hb := hd.below; replace HB := Aside0.mk (below_step HB.out hb); clear hb hd))
    go_ret
    exact ⟨rfl, HB.out⟩
  | true =>
    cases b2 with
    | false =>
      go_enter Tryd.func41, Tryd.ntmps41
      go_wp2_with (first
        | (go_at_call 28; (with_reducible refine (meter_within.calls x.f0 1 1000 true _ F1.out).mono ?_); rintro e w1 ⟨rfl, hd⟩; have hb := hd.below; replace HB := Aside0.mk (below_step HB.out hb); replace BK := Aside0.mk (blk_below BK.out hb); have z1 : w1.cell? ⟨w.heap.size, 1, none⟩ = some (.int .i64 x.f1) := (blk_cell BK.out 1).trans rfl; clear hb hd)
        | (go_at_call 28; (with_reducible refine (meter_within.calls x.f1 0 36524 false _ F2.out).mono ?_); rintro e w2 ⟨rfl, hd⟩; have hb := hd.below; replace HB := Aside0.mk (below_step HB.out hb); clear hb hd))
      go_ret
      exact ⟨rfl, HB.out⟩
    | true =>
      cases b3 with
      | false =>
        go_enter Tryd.func41, Tryd.ntmps41
        go_wp2_with (first
          | (go_at_call 28; (with_reducible refine (meter_within.calls x.f0 1 1000 true _ F1.out).mono ?_); rintro e w1 ⟨rfl, hd⟩; have hb := hd.below; replace HB := Aside0.mk (below_step HB.out hb); replace BK := Aside0.mk (blk_below BK.out hb); have z1 : w1.cell? ⟨w.heap.size, 1, none⟩ = some (.int .i64 x.f1) := (blk_cell BK.out 1).trans rfl; clear hb hd)
          | (go_at_call 28; (with_reducible refine (meter_within.calls x.f1 0 36524 true _ F2.out).mono ?_); rintro e w2 ⟨rfl, hd⟩; have hb := hd.below; replace HB := Aside0.mk (below_step HB.out hb); replace BK := Aside0.mk (blk_below BK.out hb); have z3 : w2.cell? ⟨w.heap.size, 3, none⟩ = some (.int .i64 x.f3) := (blk_cell BK.out 3).trans rfl; clear hb hd)
          | (go_at_call 28; (with_reducible refine (meter_within.calls x.f3 0 36524 false _ F3.out).mono ?_); rintro e w3 ⟨rfl, hd⟩; have hb := hd.below; replace HB := Aside0.mk (below_step HB.out hb); clear hb hd))
        go_ret
        exact ⟨rfl, HB.out⟩
      | true =>
        go_enter Tryd.func41, Tryd.ntmps41
        go_wp2_with (first
          | (go_at_call 28; (with_reducible refine (meter_within.calls x.f0 1 1000 true _ F1.out).mono ?_); rintro e w1 ⟨rfl, hd⟩; have hb := hd.below; replace HB := Aside0.mk (below_step HB.out hb); replace BK := Aside0.mk (blk_below BK.out hb); have z1 : w1.cell? ⟨w.heap.size, 1, none⟩ = some (.int .i64 x.f1) := (blk_cell BK.out 1).trans rfl; clear hb hd)
          | (go_at_call 28; (with_reducible refine (meter_within.calls x.f1 0 36524 true _ F2.out).mono ?_); rintro e w2 ⟨rfl, hd⟩; have hb := hd.below; replace HB := Aside0.mk (below_step HB.out hb); replace BK := Aside0.mk (blk_below BK.out hb); have z3 : w2.cell? ⟨w.heap.size, 3, none⟩ = some (.int .i64 x.f3) := (blk_cell BK.out 3).trans rfl; clear hb hd)
          | (go_at_call 28; (with_reducible refine (meter_within.calls x.f3 0 36524 true _ F3.out).mono ?_); rintro e w3 ⟨rfl, hd⟩; have hb := hd.below; replace HB := Aside0.mk (below_step HB.out hb); replace BK := Aside0.mk (blk_below BK.out hb); have z2 : w3.cell? ⟨w.heap.size, 2, none⟩ = some (.int .i64 x.f2) := (blk_cell BK.out 2).trans rfl; clear hb hd)
          | (go_at_call 28; (with_reducible refine (meter_within.calls x.f2 0 999999 b4 _ F4.out).mono ?_); rintro e w4 ⟨rfl, hd⟩; have hb := hd.below; replace HB := Aside0.mk (below_step HB.out hb); clear hb hd))
        go_ret
        exact ⟨by cases b4 <;> rfl, HB.out⟩

def IndexF (l : List S43) (w : World) (e : Ending) (w' : World) : Prop := ∃ j : Int, e = .returned (.int .i64 j) ∧ decide (0 ≤ j) = !(l.all readingOk) ∧ Below w.heap.size w w'
set_option maxHeartbeats 8000000 in
set_option maxRecDepth 100000 in
theorem indexFunc_calls (A0 : Option Addr) (c0 : Nat) (l0 : List S43) (w : World) (hr0 : Kd.C k43 w A0 l0.length l0) :
    Calls Tryd.prog 48 #[.slice A0 l0.length c0, .func (.func 41) #[] #[]] w (IndexF l0 w) := by
  have hu43 := Tryd.underlying43
  have HR0 := Aside0.mk hr0
  have hln := hr0.2.1
  have HB := Aside0.mk (Below.refl w.heap.size w)
  clear hr0
  go_enter Tryd.func48, Tryd.ntmps48
  go_wp2
  go_loopg [8] l0.length (fun gk v8 w' => ∃ i : Nat, v8 = .int .i64 i ∧ Aside0 (i ≤ l0.length ∧ gk = l0.length - i) ∧ Aside0 (∀ j : Nat, j < i → readingOk (rd_T43 l0 (j : Int)) = true) ∧ Aside0 (Below w.heap.size w w'))
  case atStart => exact ⟨0, rfl, ⟨Nat.zero_le _, rfl⟩, ⟨fun j hj => absurd hj (Nat.not_lt_zero j)⟩, HB⟩
  case round =>
    obtain ⟨i, rfl, HI, HV, HBr⟩ := hrel
    have hi := HI.out.1
    by_cases hlt : i < l0.length
    · obtain ⟨ad, e, x0, x1, x2, x3⟩ := at_T43 HR0.out (i : Int) (by omega) (by omega)
      cases e
      simp only [Int.toNat_natCast] at x0 x1 x2 x3
      replace x0 := (HBr.out.cell (World.block_lt_of_cell? w _ x0)).trans x0
      replace x1 := (HBr.out.cell (World.block_lt_of_cell? w _ x1)).trans x1
      replace x2 := (HBr.out.cell (World.block_lt_of_cell? w _ x2)).trans x2
      replace x3 := (HBr.out.cell (World.block_lt_of_cell? w _ x3)).trans x3
      by_cases hv : readingOk (rd_T43 l0 (i : Int)) = true
      · have HV' : Aside0 (∀ j : Nat, j < i + 1 → readingOk (rd_T43 l0 (j : Int)) = true) := ⟨fun j hj => by
          rcases Nat.lt_or_ge j i with h | h
          · exact HV.out j h
          · obtain rfl : j = i := by omega
            exact hv⟩
        have hc : Aside0 (∀ W, Calls Tryd.prog 41 #[.agg #[.int .i64 (rd_T43 l0 (i : Int)).f0, .int .i64 (rd_T43 l0 (i : Int)).f1, .int .i64 (rd_T43 l0 (i : Int)).f2, .int .i64 (rd_T43 l0 (i : Int)).f3]] W fun e w' => e = .returned (.bool false) ∧ Below W.heap.size W w') := ⟨fun W => by
          have h := readings1_calls (rd_T43 l0 (i : Int)) W
          rw [hv] at h; exact h⟩
        clear hv
        generalize rd_T43 l0 (i : Int) = x at *
        go_wp2_with (first
          | (go_at_call 41; (with_reducible refine (hc.out _).mono ?_); rintro e w2 ⟨rfl, hb⟩; replace HBr := Aside0.mk (below_step HBr.out hb); clear hb))
        go_roundg (l0.length - (i + 1))
        case measure => have := HI.out; omega
        case rel => exact ⟨i + 1, by go_num, ⟨by omega, rfl⟩, HV', HBr⟩
      · have hbad := Aside0.mk (all43_not hlt (by simpa using hv))
        have hc : Aside0 (∀ W, Calls Tryd.prog 41 #[.agg #[.int .i64 (rd_T43 l0 (i : Int)).f0, .int .i64 (rd_T43 l0 (i : Int)).f1, .int .i64 (rd_T43 l0 (i : Int)).f2, .int .i64 (rd_T43 l0 (i : Int)).f3]] W fun e w' => e = .returned (.bool true) ∧ Below W.heap.size W w') := ⟨fun W => by
          have h := readings1_calls (rd_T43 l0 (i : Int)) W
          rw [Bool.not_eq_true] at hv
          rw [hv] at h; exact h⟩
        clear hv
        generalize rd_T43 l0 (i : Int) = x at *
        go_wp2_with (first
          | (go_at_call 41; (with_reducible refine (hc.out _).mono ?_); rintro e w2 ⟨rfl, hb⟩; replace HBr := Aside0.mk (below_step HBr.out hb); clear hb))
        go_ret
        exact ⟨_, rfl, by rw [hbad.out]; exact decide_eq_true (by omega), HBr.out⟩
    · obtain rfl : i = l0.length := by omega
      have hall := Aside0.mk (all43_of (p := readingOk) HV.out)
      go_wp2
      go_ret
      exact ⟨_, rfl, by rw [hall.out]; rfl, HBr.out⟩

set_option maxHeartbeats 8000000 in
set_option maxRecDepth 100000 in
theorem containsFunc_calls (A0 : Option Addr) (c0 : Nat) (l0 : List S43) (w : World) (hr0 : Kd.C k43 w A0 l0.length l0) :
    Calls Tryd.prog 42 #[.slice A0 l0.length c0, .func (.func 41) #[] #[]] w fun e w' => e = .returned (.bool (!(l0.all readingOk))) ∧ Below w.heap.size w w' := by
  have hc := Aside0.mk (indexFunc_calls A0 c0 l0 w hr0)
  clear hr0
  go_enter Tryd.func42, Tryd.ntmps42
  go_wp2_with (first
    | (go_at_call 48; (with_reducible refine hc.out.mono ?_); rintro e w2 ⟨j, rfl, hj, hb⟩; have HJ := Aside0.mk hj; have HB := Aside0.mk hb; clear hj hb))
  go_ret
  exact ⟨by rw [← HJ.out]; rfl, HB.out⟩

def meter_readings.f (l0 : List S43) : Option Bool := some (readingsL l0)
set_option maxHeartbeats 8000000 in
set_option maxRecDepth 100000 in
theorem meter_readings.calls (A0 : Option Addr) (c0 : Nat) (l0 : List S43) (r : Bool) (w : World) (hr0 : Kd.C k43 w A0 l0.length l0) (hc0 : l0.length ≤ c0) (h : meter_readings.f l0 = some r) :
    Calls Tryd.prog 27 #[.slice A0 l0.length c0] w fun e w' => e = .returned (.bool r) ∧ Below w.heap.size w w' := by
  obtain rfl : readingsL l0 = r := Option.some.inj h
  clear h
  have HR0 := Aside0.mk hr0
  have HB := Aside0.mk (Below.refl w.heap.size w)
  clear hr0 hc0
  by_cases hl : l0.length ≤ 1000
  · have e1 : decide ((l0.length : Int) ≤ 1000) = true := decide_eq_true (by omega)
    have HE : Aside0 (readingsL l0 = l0.all readingOk) := ⟨by unfold readingsL; rw [decide_eq_true hl, Bool.true_and]⟩
    clear hl
    go_enter Tryd.func27, Tryd.ntmps27
    go_wp2_with (first
      | (go_at_call 42; (with_reducible refine (containsFunc_calls A0 c0 l0 _ HR0.out).mono ?_); rintro e w2 ⟨rfl, hb⟩; replace HB := Aside0.mk hb; clear hb))
    go_ret
    exact ⟨by rw [HE.out]; simp, HB.out⟩
  · have e1 : decide ((l0.length : Int) ≤ 1000) = false := decide_eq_false (by omega)
    have HE : Aside0 (readingsL l0 = false) := ⟨by unfold readingsL; rw [decide_eq_false hl, Bool.false_and]⟩
    clear hl
    go_enter Tryd.func27, Tryd.ntmps27
    go_wp2
    go_ret
    exact ⟨by rw [HE.out]; rfl, HB.out⟩
end Go.Proofs.YtknfkibnocfjiaaDoor.P
