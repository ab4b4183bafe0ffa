/- The contract of ledger.Balance. -/
import Derived.Test.YtnheelncgpgkiaaGSum
namespace Go.Proofs.Ytnheelncgpgkiaa.P
open Go.RowKit Go.Proofs.YtnheelncgpgkiaaW.PrintWords Go.Proofs.YtnheelncgpgkiaaW.PrintLast Go.Proofs.YtnheelncgpgkiaaW.PrintMore Go.Proofs.Ytnheelncgpgkiaa.M
set_option linter.unusedVariables false
set_option linter.unusedSimpArgs false

def ledger_Balance.f (l0 : List S24) (a1 : ByteArray) (a2 : Int) (a3 : Int) : Option (Int × Int) := if (l0.all smallE && small a1) = true then some (balL l0 a1 a2 a3) else none
theorem wi_f (a b c : Int) : ledger_within.f a b c = some (decide (b ≤ a) && decide (a ≤ c)) := by
  unfold ledger_within.f
  by_cases h : b ≤ a
  · rw [if_pos h, decide_eq_true h, Bool.true_and]
  · rw [if_neg h, decide_eq_false h, Bool.false_and]
theorem da_f (a : Int) : ledger_isDay.f a = some (decide (0 ≤ a) && decide (a ≤ 36524)) := by
  unfold ledger_isDay.f
  rw [wi_f]; rfl
set_option maxHeartbeats 8000000 in
set_option maxRecDepth 100000 in
theorem ledger_Balance.calls (A0 : Option Addr) (c0 : Nat) (l0 : List S24) (a1 : ByteArray) (a2 : Int) (a3 : Int) (r1 : Int) (r2 : Int) (w : World) (hr0 : Kd.C k24 w A0 l0.length l0) (hc0 : l0.length ≤ c0) (h : ledger_Balance.f l0 a1 a2 a3 = some (r1, r2)) :
    Calls Try.prog 18 #[.slice A0 l0.length c0, .string a1, .int .i64 a2, .int .i64 a3] w fun e w' => e = .returned (.tuple #[.int .i64 r1, .int .i64 r2]) ∧ Below w.heap.size w w' := by
  unfold ledger_Balance.f at h
  by_cases hs : (l0.all smallE && small a1) = true
  · rw [if_pos hs] at h
    have hr := Option.some.inj h
    rw [Bool.and_eq_true] at hs
    obtain ⟨hs0, hsa⟩ := hs
    have HR0 := Aside0.mk hr0
    have HC0 := Aside0.mk hc0
    have HB := Aside0.mk (Below.refl w.heap.size w)
    have HF1 : Aside0 (ledger_Valid.f l0 = some (validL l0)) := ⟨by rw [ledger_Valid.f, if_pos hs0]⟩
    have HF2 : Aside0 (ledger_isAccount.f a1 = some (accB a1)) := ⟨by rw [ledger_isAccount.f, if_pos hsa]⟩
    have HF3 := Aside0.mk (da_f a2)
    have HF4 := Aside0.mk (da_f a3)
    clear hr0 hc0 h hs0 hsa
    unfold balL at hr
    generalize hb1 : validL l0 = b1 at hr HF1
    generalize hb2 : accB a1 = b2 at hr HF2
    generalize hb3 : (decide (0 ≤ a2) && decide (a2 ≤ 36524)) = b3 at hr HF3
    generalize hb4 : (decide (0 ≤ a3) && decide (a3 ≤ 36524)) = b4 at hr HF4
    have HB1 := Aside0.mk hb1
    clear hb1 hb2 hb3 hb4
    have HW0 : Aside0 (Below w.heap.size w (((w.alloc (.cells #[.string a1] 9)).alloc (.cells #[.int .i64 a2] 3)).alloc (.cells #[.int .i64 a3] 3))) := ⟨below_alloc (below_alloc (below_alloc HB.out _) _) _⟩
    by_cases hall : (b1 && b2 && b3 && b4) = true
    · rw [if_pos hall] at hr
      simp only [Bool.and_eq_true] at hall
      obtain ⟨⟨⟨rfl, rfl⟩, rfl⟩, rfl⟩ := hall
      have hln := validL_len HB1.out
      have hva := Aside0.mk (validL_all HB1.out)
      have hSum : Aside0 (∀ (W : World), Kd.C k24 W A0 l0.length l0 → W.cell? ⟨w.heap.size + 1, 0, none⟩ = some (.int .i64 a2) → W.cell? ⟨w.heap.size + 2, 0, none⟩ = some (.int .i64 a3) → W.cell? ⟨w.heap.size, 0, none⟩ = some (.string a1) →
          Calls Try.prog 35 #[.slice A0 l0.length c0, .func (.func 36) #[] #[.pointer (some ⟨w.heap.size + 1, 0, none⟩), .pointer (some ⟨w.heap.size + 2, 0, none⟩), .pointer (some ⟨w.heap.size, 0, none⟩)]] W fun e w' => e = .returned (.int .i64 (balF a1 a2 a3 l0)) ∧ Below W.heap.size W w') :=
        ⟨fun W hR h1 h2 h3 => ledger_sum_calls A0 c0 l0 a1 a2 a3 _ _ _ W hR hln hva.out h1 h2 h3⟩
      have HFS := Aside0.mk (wi_f (balF a1 a2 a3 l0) (-1000000000) 1000000000)
      clear hva hln
      generalize hS : balF a1 a2 a3 l0 = S at *
      clear hS
      by_cases h5 : (decide (-1000000000 ≤ S) && decide (S ≤ 1000000000)) = true
      · rw [h5] at HFS
        rw [if_pos h5] at hr
        simp only [Prod.mk.injEq] at hr
        obtain ⟨rfl, rfl⟩ := hr
        clear h5
        go_enter Try.func18, Try.ntmps18
        go_wp2_with (first
          | (go_at_call 15; (with_reducible refine (ledger_Valid.calls A0 c0 l0 true _ ?s1 HC0.out HF1.out).mono ?_); (case s1 => exact Kd.C_below HR0.out HW0.out); rintro e w1 ⟨rfl, hb⟩; have HX1 := Aside0.mk hb; have cA : w1.cell? ⟨w.heap.size, 0, none⟩ = some (.string a1) := ((bcell hb).1 _ 0 (by simp; omega)).trans (by go_simp); have cD : w1.cell? ⟨w.heap.size + 1, 0, none⟩ = some (.int .i64 a2) := ((bcell hb).1 _ 0 (by simp)).trans (by go_simp); have cK : w1.cell? ⟨w.heap.size + 2, 0, none⟩ = some (.int .i64 a3) := ((bcell hb).1 _ 0 (by simp)).trans (by go_simp); clear hb)
          | (go_at_call 33; (with_reducible refine (ledger_isAccount.calls a1 true _ HF2.out).mono ?_); rintro e w2 ⟨rfl, hb⟩; have HX2 := Aside0.mk hb; replace cA := (hb.cell (World.block_lt_of_cell? _ _ cA)).trans cA; replace cD := (hb.cell (World.block_lt_of_cell? _ _ cD)).trans cD; replace cK := (hb.cell (World.block_lt_of_cell? _ _ cK)).trans cK; clear hb)
          | (go_at_call_of 34 (Value.int IntKind.i64 a2); (with_reducible refine (ledger_isDay.calls a2 true _ HF3.out).mono ?_); rintro e w3 ⟨rfl, hd⟩; have hb := hd.below; have HX3 := Aside0.mk hb; replace cA := (hb.cell (World.block_lt_of_cell? _ _ cA)).trans cA; replace cD := (hb.cell (World.block_lt_of_cell? _ _ cD)).trans cD; replace cK := (hb.cell (World.block_lt_of_cell? _ _ cK)).trans cK; clear hb hd)
          | (go_at_call 34; (with_reducible refine (ledger_isDay.calls a3 true _ HF4.out).mono ?_); rintro e w4 ⟨rfl, hd⟩; have hb := hd.below; have HX4 := Aside0.mk hb; replace cA := (hb.cell (World.block_lt_of_cell? _ _ cA)).trans cA; replace cD := (hb.cell (World.block_lt_of_cell? _ _ cD)).trans cD; replace cK := (hb.cell (World.block_lt_of_cell? _ _ cK)).trans cK; clear hb hd)
          | (go_at_call 35; (with_reducible refine (hSum.out _ ?s1 ?s2 ?s3 ?s4).mono ?_); (case s1 => exact Kd.C_below (Kd.C_below (Kd.C_below (Kd.C_below (Kd.C_below HR0.out HW0.out) HX1.out) HX2.out) HX3.out) HX4.out); (case s2 => exact cD); (case s3 => exact cK); (case s4 => exact cA); rintro e w5 ⟨rfl, hb⟩; have HX5 := Aside0.mk hb; clear hb)
          | (go_at_call 37; (with_reducible refine (ledger_within.calls S (-1000000000) 1000000000 true _ HFS.out).mono ?_); rintro e w6 ⟨rfl, hd⟩; have HX6 := Aside0.mk hd.below; clear hd))
        go_ret2
        exact ⟨rfl, below_step (below_step (below_step (below_step (below_step (below_step HW0.out HX1.out) HX2.out) HX3.out) HX4.out) HX5.out) HX6.out⟩
      · rw [show (decide (-1000000000 ≤ S) && decide (S ≤ 1000000000)) = false by simpa using h5] at HFS
        rw [if_neg h5] at hr
        simp only [Prod.mk.injEq] at hr
        obtain ⟨rfl, rfl⟩ := hr
        clear h5
        go_enter Try.func18, Try.ntmps18
        go_wp2_with (first
          | (go_at_call 15; (with_reducible refine (ledger_Valid.calls A0 c0 l0 true _ ?s1 HC0.out HF1.out).mono ?_); (case s1 => exact Kd.C_below HR0.out HW0.out); rintro e w1 ⟨rfl, hb⟩; have HX1 := Aside0.mk hb; have cA : w1.cell? ⟨w.heap.size, 0, none⟩ = some (.string a1) := ((bcell hb).1 _ 0 (by simp; omega)).trans (by go_simp); have cD : w1.cell? ⟨w.heap.size + 1, 0, none⟩ = some (.int .i64 a2) := ((bcell hb).1 _ 0 (by simp)).trans (by go_simp); have cK : w1.cell? ⟨w.heap.size + 2, 0, none⟩ = some (.int .i64 a3) := ((bcell hb).1 _ 0 (by simp)).trans (by go_simp); clear hb)
          | (go_at_call 33; (with_reducible refine (ledger_isAccount.calls a1 true _ HF2.out).mono ?_); rintro e w2 ⟨rfl, hb⟩; have HX2 := Aside0.mk hb; replace cA := (hb.cell (World.block_lt_of_cell? _ _ cA)).trans cA; replace cD := (hb.cell (World.block_lt_of_cell? _ _ cD)).trans cD; replace cK := (hb.cell (World.block_lt_of_cell? _ _ cK)).trans cK; clear hb)
          | (go_at_call_of 34 (Value.int IntKind.i64 a2); (with_reducible refine (ledger_isDay.calls a2 true _ HF3.out).mono ?_); rintro e w3 ⟨rfl, hd⟩; have hb := hd.below; have HX3 := Aside0.mk hb; replace cA := (hb.cell (World.block_lt_of_cell? _ _ cA)).trans cA; replace cD := (hb.cell (World.block_lt_of_cell? _ _ cD)).trans cD; replace cK := (hb.cell (World.block_lt_of_cell? _ _ cK)).trans cK; clear hb hd)
          | (go_at_call 34; (with_reducible refine (ledger_isDay.calls a3 true _ HF4.out).mono ?_); rintro e w4 ⟨rfl, hd⟩; have hb := hd.below; have HX4 := Aside0.mk hb; replace cA := (hb.cell (World.block_lt_of_cell? _ _ cA)).trans cA; replace cD := (hb.cell (World.block_lt_of_cell? _ _ cD)).trans cD; replace cK := (hb.cell (World.block_lt_of_cell? _ _ cK)).trans cK; clear hb hd)
          | (go_at_call 35; (with_reducible refine (hSum.out _ ?s1 ?s2 ?s3 ?s4).mono ?_); (case s1 => exact Kd.C_below (Kd.C_below (Kd.C_below (Kd.C_below (Kd.C_below HR0.out HW0.out) HX1.out) HX2.out) HX3.out) HX4.out); (case s2 => exact cD); (case s3 => exact cK); (case s4 => exact cA); rintro e w5 ⟨rfl, hb⟩; have HX5 := Aside0.mk hb; clear hb)
          | (go_at_call 37; (with_reducible refine (ledger_within.calls S (-1000000000) 1000000000 false _ HFS.out).mono ?_); rintro e w6 ⟨rfl, hd⟩; have HX6 := Aside0.mk hd.below; clear hd))
        go_ret2
        exact ⟨rfl, below_step (below_step (below_step (below_step (below_step (below_step HW0.out HX1.out) HX2.out) HX3.out) HX4.out) HX5.out) HX6.out⟩
    · rw [if_neg hall] at hr
      simp only [Prod.mk.injEq] at hr
      obtain ⟨rfl, rfl⟩ := hr
      cases b1 with
      | false =>
        go_enter Try.func18, Try.ntmps18
        go_wp2_with (first
          | (go_at_call 15; (with_reducible refine (ledger_Valid.calls A0 c0 l0 false _ ?s1 HC0.out HF1.out).mono ?_); (case s1 => exact Kd.C_below HR0.out HW0.out); rintro e w1 ⟨rfl, hb⟩; have HX1 := Aside0.mk hb; have cA : w1.cell? ⟨w.heap.size, 0, none⟩ = some (.string a1) := ((bcell hb).1 _ 0 (by simp; omega)).trans (by go_simp); have cD : w1.cell? ⟨w.heap.size + 1, 0, none⟩ = some (.int .i64 a2) := ((bcell hb).1 _ 0 (by simp)).trans (by go_simp); have cK : w1.cell? ⟨w.heap.size + 2, 0, none⟩ = some (.int .i64 a3) := ((bcell hb).1 _ 0 (by simp)).trans (by go_simp); clear hb))
        go_ret2
        exact ⟨rfl, below_step HW0.out HX1.out⟩
      | true =>
        cases b2 with
        | false =>
          go_enter Try.func18, Try.ntmps18
          go_wp2_with (first
            | (go_at_call 15; (with_reducible refine (ledger_Valid.calls A0 c0 l0 true _ ?s1 HC0.out HF1.out).mono ?_); (case s1 => exact Kd.C_below HR0.out HW0.out); rintro e w1 ⟨rfl, hb⟩; have HX1 := Aside0.mk hb; have cA : w1.cell? ⟨w.heap.size, 0, none⟩ = some (.string a1) := ((bcell hb).1 _ 0 (by simp; omega)).trans (by go_simp); have cD : w1.cell? ⟨w.heap.size + 1, 0, none⟩ = some (.int .i64 a2) := ((bcell hb).1 _ 0 (by simp)).trans (by go_simp); have cK : w1.cell? ⟨w.heap.size + 2, 0, none⟩ = some (.int .i64 a3) := ((bcell hb).1 _ 0 (by simp)).trans (by go_simp); clear hb)
            | (go_at_call 33; (with_reducible refine (ledger_isAccount.calls a1 false _ HF2.out).mono ?_); rintro e w2 ⟨rfl, hb⟩; have HX2 := Aside0.mk hb; replace cA := (hb.cell (World.block_lt_of_cell? _ _ cA)).trans cA; replace cD := (hb.cell (World.block_lt_of_cell? _ _ cD)).trans cD; replace cK := (hb.cell (World.block_lt_of_cell? _ _ cK)).trans cK; clear hb))
          go_ret2
          exact ⟨rfl, below_step (below_step HW0.out HX1.out) HX2.out⟩
        | true =>
          cases b3 with
          | false =>
            go_enter Try.func18, Try.ntmps18
            go_wp2_with (first
              | (go_at_call 15; (with_reducible refine (ledger_Valid.calls A0 c0 l0 true _ ?s1 HC0.out HF1.out).mono ?_); (case s1 => exact Kd.C_below HR0.out HW0.out); rintro e w1 ⟨rfl, hb⟩; have HX1 := Aside0.mk hb; have cA : w1.cell? ⟨w.heap.size, 0, none⟩ = some (.string a1) := ((bcell hb).1 _ 0 (by simp; omega)).trans (by go_simp); have cD : w1.cell? ⟨w.heap.size + 1, 0, none⟩ = some (.int .i64 a2) := ((bcell hb).1 _ 0 (by simp)).trans (by go_simp); have cK : w1.cell? ⟨w.heap.size + 2, 0, none⟩ = some (.int .i64 a3) := ((bcell hb).1 _ 0 (by simp)).trans (by go_simp); clear hb)
              | (go_at_call 33; (with_reducible refine (ledger_isAccount.calls a1 true _ HF2.out).mono ?_); rintro e w2 ⟨rfl, hb⟩; have HX2 := Aside0.mk hb; replace cA := (hb.cell (World.block_lt_of_cell? _ _ cA)).trans cA; replace cD := (hb.cell (World.block_lt_of_cell? _ _ cD)).trans cD; replace cK := (hb.cell (World.block_lt_of_cell? _ _ cK)).trans cK; clear hb)
              | (go_at_call_of 34 (Value.int IntKind.i64 a2); (with_reducible refine (ledger_isDay.calls a2 false _ HF3.out).mono ?_); rintro e w3 ⟨rfl, hd⟩; have hb := hd.below; have HX3 := Aside0.mk hb; replace cA := (hb.cell (World.block_lt_of_cell? _ _ cA)).trans cA; replace cD := (hb.cell (World.block_lt_of_cell? _ _ cD)).trans cD; replace cK := (hb.cell (World.block_lt_of_cell? _ _ cK)).trans cK; clear hb hd))
            go_ret2
            exact ⟨rfl, below_step (below_step (below_step HW0.out HX1.out) HX2.out) HX3.out⟩
          | true =>
            cases b4 with
            | true => exact absurd rfl hall
            | false =>
              go_enter Try.func18, Try.ntmps18
              go_wp2_with (first
                | (go_at_call 15; (with_reducible refine (ledger_Valid.calls A0 c0 l0 true _ ?s1 HC0.out HF1.out).mono ?_); (case s1 => exact Kd.C_below HR0.out HW0.out); rintro e w1 ⟨rfl, hb⟩; have HX1 := Aside0.mk hb; have cA : w1.cell? ⟨w.heap.size, 0, none⟩ = some (.string a1) := ((bcell hb).1 _ 0 (by simp; omega)).trans (by go_simp); have cD : w1.cell? ⟨w.heap.size + 1, 0, none⟩ = some (.int .i64 a2) := ((bcell hb).1 _ 0 (by simp)).trans (by go_simp); have cK : w1.cell? ⟨w.heap.size + 2, 0, none⟩ = some (.int .i64 a3) := ((bcell hb).1 _ 0 (by simp)).trans (by go_simp); clear hb)
                | (go_at_call 33; (with_reducible refine (ledger_isAccount.calls a1 true _ HF2.out).mono ?_); rintro e w2 ⟨rfl, hb⟩; have HX2 := Aside0.mk hb; replace cA := (hb.cell (World.block_lt_of_cell? _ _ cA)).trans cA; replace cD := (hb.cell (World.block_lt_of_cell? _ _ cD)).trans cD; replace cK := (hb.cell (World.block_lt_of_cell? _ _ cK)).trans cK; clear hb)
                | (go_at_call_of 34 (Value.int IntKind.i64 a2); (with_reducible refine (ledger_isDay.calls a2 true _ HF3.out).mono ?_); rintro e w3 ⟨rfl, hd⟩; have hb := hd.below; have HX3 := Aside0.mk hb; replace cA := (hb.cell (World.block_lt_of_cell? _ _ cA)).trans cA; replace cD := (hb.cell (World.block_lt_of_cell? _ _ cD)).trans cD; replace cK := (hb.cell (World.block_lt_of_cell? _ _ cK)).trans cK; clear hb hd)
                | (go_at_call 34; (with_reducible refine (ledger_isDay.calls a3 false _ HF4.out).mono ?_); rintro e w4 ⟨rfl, hd⟩; have hb := hd.below; have HX4 := Aside0.mk hb; replace cA := (hb.cell (World.block_lt_of_cell? _ _ cA)).trans cA; replace cD := (hb.cell (World.block_lt_of_cell? _ _ cD)).trans cD; replace cK := (hb.cell (World.block_lt_of_cell? _ _ cK)).trans cK; clear hb hd))
              go_ret2
              exact ⟨rfl, below_step (below_step (below_step (below_step HW0.out HX1.out) HX2.out) HX3.out) HX4.out⟩
  · rw [if_neg hs] at h; cases h
end Go.Proofs.Ytnheelncgpgkiaa.P
