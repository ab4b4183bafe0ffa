/- The contract of ledger.Reverse. -/
import Derived.Test.YtnheelncgpgkiaaGPost
namespace Go.Proofs.Ytnheelncgpgkiaa.P
open Go.RowKit Go.Proofs.YtnheelncgpgkiaaW.PrintWords Go.Proofs.YtnheelncgpgkiaaW.PrintLast Go.Proofs.YtnheelncgpgkiaaW.PrintMore Go.Proofs.Ytnheelncgpgkiaa.M
open Go.Maps (keyOf_int_mk)
set_option linter.unusedVariables false
set_option linter.unusedSimpArgs false

def ledger_Reverse.f (l0 : List S24) (a1 : Int) (a2 : Int) (a3 : Int) (a4 : Int) : Option (List S24 × Int) :=
  if l0.all smallE = true ∧ (Lit.int .i64 a1).wf = true then some (revL l0 a1 a2 a3 a4) else none
theorem within_f (a b c : Int) : ledger_within.f a b c = some (decide (b ≤ a) && decide (a ≤ c)) := by
  unfold ledger_within.f
  by_cases h : b ≤ a
  · rw [if_pos h, decide_eq_true h, Bool.true_and]
  · rw [if_neg h, decide_eq_false h, Bool.false_and]
theorem isDay_f (a : Int) : ledger_isDay.f a = some (decide (0 ≤ a) && decide (a ≤ 36524)) := by
  unfold ledger_isDay.f
  rw [within_f]; rfl
set_option maxHeartbeats 8000000 in
set_option maxRecDepth 100000 in
theorem ledger_Reverse.calls (A0 : Option Addr) (c0 : Nat) (l0 : List S24) (a1 : Int) (a2 : Int) (a3 : Int) (a4 : Int) (r1 : List S24) (r2 : Int) (w : World) (hr0 : Kd.C k24 w A0 l0.length l0) (hc0 : l0.length ≤ c0) (h : ledger_Reverse.f l0 a1 a2 a3 a4 = some (r1, r2)) :
    Calls Try.prog 23 #[.slice A0 l0.length c0, .int .i64 a1, .int .i64 a2, .int .i64 a3, .int .i64 a4] w fun e w' => ∃ v0_ : Value, e = .returned (.tuple #[v0_, .int .i64 r2]) ∧ Kd.R k24 24 w' w.heap.size (fun _ => True) v0_ r1 ∧ Below w.heap.size w w' := by
  show Calls _ _ _ _ (RowPost w r1 r2)
  unfold ledger_Reverse.f at h
  by_cases hs : l0.all smallE = true ∧ (Lit.int .i64 a1).wf = true
  · rw [if_pos hs] at h
    have hr := Option.some.inj h
    have hs0 := hs.1
    have HW1 := Aside0.mk hs.2
    have HR0 := Aside0.mk hr0
    have HC0 := Aside0.mk hc0
    have HI := Aside0.mk (fun (W : World) (hW : Kd.C k24 W A0 l0.length l0) => ledger_index_calls A0 c0 l0 W hW hc0 hs0)
    have HB := Aside0.mk (Below.refl w.heap.size w)
    have HF2 := Aside0.mk (within_f a2 1 1000000)
    have HF3 := Aside0.mk (isDay_f a3)
    have HF4 := Aside0.mk (isDay_f a4)
    clear hr0 hc0 h hs0 hs
    unfold revL at hr
    generalize hb2 : (decide (1 ≤ a2) && decide (a2 ≤ 1000000)) = b2 at hr HF2
    generalize hb3 : (decide (0 ≤ a3) && decide (a3 ≤ 36524)) = b3 at hr HF3
    generalize hb4 : (decide (0 ≤ a4) && decide (a4 ≤ 36524)) = b4 at hr HF4
    have HB2 := Aside0.mk hb2
    clear hb2 hb3 hb4
    by_cases h1 : validL l0 = true
    · have H1 := Aside0.mk h1
      have hln := validL_len h1
      rw [h1, Bool.true_and] at hr
      clear h1
      by_cases hall : (b2 && b3 && b4) = true
      · rw [if_pos hall] at hr
        simp only [Bool.and_eq_true] at hall
        obtain ⟨⟨rfl, rfl⟩, rfl⟩ := hall
        cases hid : idF l0 a1 with
        | none =>
          rw [hid] at hr
          simp only [Prod.mk.injEq] at hr
          obtain ⟨rfl, rfl⟩ := hr
          have HID := Aside0.mk hid
          clear hid
          go_enter Try.func23, Try.ntmps23
          go_wp2_with (first
            | (go_at_call 27; (with_reducible refine (HI.out _ ?s1).mono ?_); (case s1 => exact HR0.out); rintro e w1 ⟨mb, rfl, hb, hm⟩; rw [H1.out]; obtain ⟨b, rfl, hle, hM⟩ := hm H1.out; have HM := Aside0.mk hM; have HB1 := Aside0.mk hb; clear hm hM hb hle)
            | (go_at_call 37; (with_reducible refine (ledger_within.calls a2 1 1000000 true _ HF2.out).mono ?_); rintro e wA ⟨rfl, hd⟩; have HBA := Aside0.mk hd.below; clear hd)
            | (go_at_call_of 34 (Value.int IntKind.i64 a3); (with_reducible refine (ledger_isDay.calls a3 true _ HF3.out).mono ?_); rintro e wB ⟨rfl, hd⟩; have HBB := Aside0.mk hd.below; clear hd)
            | (go_at_call 34; (with_reducible refine (ledger_isDay.calls a4 true _ HF4.out).mono ?_); rintro e wC ⟨rfl, hd⟩; have HBC := Aside0.mk hd.below; clear hd)
            | (at_lookup; refine wpList_look rfl (.tmp 39) (.tmp 40) 48 true rfl 3 24 keyInt Try.underlying48 (encE z24) zeroE24 b l0.length (intF encE (idF l0)) rfl (((HM.out.kept HBA.out).kept HBB.out).kept HBC.out) (.int .i64 a1) (.int .i64 a1) rfl (keyOf_int_mk Try.underlying3 HW1.out) none (by rw [intF_at, HID.out]; rfl) ?_; simp only [looked_true, Option.getD_none, Option.isSome_none, encE, z24]))
          go_ret2
          exact ⟨_, rfl, Kd.R_nil _ _ _ _ _, below_alloc (below_step (below_step (below_step HB1.out HBA.out) HBB.out) HBC.out) _⟩
        | some x =>
          rw [hid] at hr
          have hr' : postF l0 ⟨a2, a3, a4, x.f3, x.f5, x.f4⟩ = (r1, r2) := hr
          have HRR := Aside0.mk hr'
          have HID := Aside0.mk hid
          have hw2 := HB2.out
          simp only [Bool.and_eq_true, decide_eq_true_eq] at hw2
          have hwf : Aside0 ((Lit.int .i64 a2).wf = true) := ⟨WalkArith.wf_i64 (by omega)⟩
          have HP : Aside0 (∀ (W : World) (b n : Nat), Kd.C k24 W A0 l0.length l0 → MapAt W Try.prog 3 b (intF encE (idF l0)) n → Calls Try.prog 29 #[.slice A0 l0.length c0, .map (some b), .agg #[.int .i64 a2, .int .i64 a3, .int .i64 a4, .int .i64 x.f3, .string x.f5, .string x.f4]] W (RowPost W r1 r2)) :=
            ⟨fun W b n hW hM => by
              have := ledger_post_calls A0 c0 l0 b n ⟨a2, a3, a4, x.f3, x.f5, x.f4⟩ W hW HC0.out hln hM hwf.out
              rw [hr'] at this; exact this⟩
          clear hid hw2 hr hr'
          go_enter Try.func23, Try.ntmps23
          go_wp2_with (first
            | (go_at_call 27; (with_reducible refine (HI.out _ ?s1).mono ?_); (case s1 => exact HR0.out); rintro e w1 ⟨mb, rfl, hb, hm⟩; rw [H1.out]; obtain ⟨b, rfl, hle, hM⟩ := hm H1.out; have HM := Aside0.mk hM; have HB1 := Aside0.mk hb; clear hm hM hb hle)
            | (go_at_call 37; (with_reducible refine (ledger_within.calls a2 1 1000000 true _ HF2.out).mono ?_); rintro e wA ⟨rfl, hd⟩; have HBA := Aside0.mk hd.below; clear hd)
            | (go_at_call_of 34 (Value.int IntKind.i64 a3); (with_reducible refine (ledger_isDay.calls a3 true _ HF3.out).mono ?_); rintro e wB ⟨rfl, hd⟩; have HBB := Aside0.mk hd.below; clear hd)
            | (go_at_call 34; (with_reducible refine (ledger_isDay.calls a4 true _ HF4.out).mono ?_); rintro e wC ⟨rfl, hd⟩; have HBC := Aside0.mk hd.below; clear hd)
            | (at_lookup; refine wpList_look rfl (.tmp 39) (.tmp 40) 48 true rfl 3 24 keyInt Try.underlying48 (encE z24) zeroE24 b l0.length (intF encE (idF l0)) rfl (((HM.out.kept HBA.out).kept HBB.out).kept HBC.out) (.int .i64 a1) (.int .i64 a1) rfl (keyOf_int_mk Try.underlying3 HW1.out) (some (encE x)) (by rw [intF_at, HID.out]; rfl) ?_; simp only [looked_true, Option.getD_some, Option.isSome_some, encE])
            | (go_at_call 29; (with_reducible refine (HP.out _ b l0.length ?s1 ?s2).mono ?_); (case s1 => exact Kd.C_alloc (Kd.C_below (Kd.C_below (Kd.C_below (Kd.C_below HR0.out HB1.out) HBA.out) HBB.out) HBC.out) _); (case s2 => exact (((HM.out.kept HBA.out).kept HBB.out).kept HBC.out).alloc _); rintro e w3 ⟨v3, rfl, hR3, hb3⟩))
          go_ret2
          exact RowPost.later (below_alloc (below_step (below_step (below_step HB1.out HBA.out) HBB.out) HBC.out) _) ⟨v3, rfl, hR3, hb3⟩
      · rw [if_neg hall] at hr
        simp only [Prod.mk.injEq] at hr
        obtain ⟨rfl, rfl⟩ := hr
        cases b2 with
        | false =>
          go_enter Try.func23, Try.ntmps23
          go_wp2_with (first
            | (go_at_call 27; (with_reducible refine (HI.out _ ?s1).mono ?_); (case s1 => exact HR0.out); rintro e w1 ⟨mb, rfl, hb, hm⟩; rw [H1.out]; have HB1 := Aside0.mk hb; clear hm hb)
            | (go_at_call 37; (with_reducible refine (ledger_within.calls a2 1 1000000 false _ HF2.out).mono ?_); rintro e wA ⟨rfl, hd⟩; have HBA := Aside0.mk hd.below; clear hd)
            | (go_at_call_of 34 (Value.int IntKind.i64 a3); (with_reducible refine (ledger_isDay.calls a3 true _ HF3.out).mono ?_); rintro e wB ⟨rfl, hd⟩; have HBB := Aside0.mk hd.below; clear hd)
            | (go_at_call 34; (with_reducible refine (ledger_isDay.calls a4 true _ HF4.out).mono ?_); rintro e wC ⟨rfl, hd⟩; have HBC := Aside0.mk hd.below; clear hd))
          go_ret2
          exact ⟨_, rfl, Kd.R_nil _ _ _ _ _, below_step HB1.out HBA.out⟩
        | true =>
          cases b3 with
          | false =>
            go_enter Try.func23, Try.ntmps23
            go_wp2_with (first
            | (go_at_call 27; (with_reducible refine (HI.out _ ?s1).mono ?_); (case s1 => exact HR0.out); rintro e w1 ⟨mb, rfl, hb, hm⟩; rw [H1.out]; have HB1 := Aside0.mk hb; clear hm hb)
            | (go_at_call 37; (with_reducible refine (ledger_within.calls a2 1 1000000 true _ HF2.out).mono ?_); rintro e wA ⟨rfl, hd⟩; have HBA := Aside0.mk hd.below; clear hd)
            | (go_at_call_of 34 (Value.int IntKind.i64 a3); (with_reducible refine (ledger_isDay.calls a3 false _ HF3.out).mono ?_); rintro e wB ⟨rfl, hd⟩; have HBB := Aside0.mk hd.below; clear hd)
            | (go_at_call 34; (with_reducible refine (ledger_isDay.calls a4 true _ HF4.out).mono ?_); rintro e wC ⟨rfl, hd⟩; have HBC := Aside0.mk hd.below; clear hd))
            go_ret2
            exact ⟨_, rfl, Kd.R_nil _ _ _ _ _, below_step (below_step HB1.out HBA.out) HBB.out⟩
          | true =>
            cases b4 with
            | true => exact absurd rfl hall
            | false =>
              go_enter Try.func23, Try.ntmps23
              go_wp2_with (first
            | (go_at_call 27; (with_reducible refine (HI.out _ ?s1).mono ?_); (case s1 => exact HR0.out); rintro e w1 ⟨mb, rfl, hb, hm⟩; rw [H1.out]; have HB1 := Aside0.mk hb; clear hm hb)
            | (go_at_call 37; (with_reducible refine (ledger_within.calls a2 1 1000000 true _ HF2.out).mono ?_); rintro e wA ⟨rfl, hd⟩; have HBA := Aside0.mk hd.below; clear hd)
            | (go_at_call_of 34 (Value.int IntKind.i64 a3); (with_reducible refine (ledger_isDay.calls a3 true _ HF3.out).mono ?_); rintro e wB ⟨rfl, hd⟩; have HBB := Aside0.mk hd.below; clear hd)
            | (go_at_call 34; (with_reducible refine (ledger_isDay.calls a4 false _ HF4.out).mono ?_); rintro e wC ⟨rfl, hd⟩; have HBC := Aside0.mk hd.below; clear hd))
              go_ret2
              exact ⟨_, rfl, Kd.R_nil _ _ _ _ _, below_step (below_step (below_step HB1.out HBA.out) HBB.out) HBC.out⟩
    · have h1' : validL l0 = false := by simpa using h1
      rw [h1'] at hr
      simp only [Bool.false_and, Bool.false_eq_true, if_false, Prod.mk.injEq] at hr
      obtain ⟨rfl, rfl⟩ := hr
      have H1 := Aside0.mk h1'
      clear h1 h1'
      go_enter Try.func23, Try.ntmps23
      go_wp2_with ((go_at_call 27; (with_reducible refine (HI.out _ ?s1).mono ?_); (case s1 => exact HR0.out); rintro e w1 ⟨mb, rfl, hb, _⟩; rw [H1.out]; have HB1 := Aside0.mk hb; clear hb))
      go_ret2
      exact ⟨_, rfl, Kd.R_nil _ _ _ _ _, HB1.out⟩
  · rw [if_neg hs] at h; cases h
end Go.Proofs.Ytnheelncgpgkiaa.P
