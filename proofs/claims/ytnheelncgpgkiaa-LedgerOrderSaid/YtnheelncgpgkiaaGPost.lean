/- The contract of ledger.Post. -/
import Derived.Test.YtnheelncgpgkiaaGPostIn
namespace Go.Proofs.Ytnheelncgpgkiaa.P
open Go.RowKit Go.Proofs.YtnheelncgpgkiaaW.PrintWords Go.Proofs.YtnheelncgpgkiaaW.PrintLast Go.Proofs.YtnheelncgpgkiaaW.PrintMore Go.Proofs.Ytnheelncgpgkiaa.M
set_option linter.unusedVariables false
set_option linter.unusedSimpArgs false

def ledger_Post.f (l0 : List S24) (a1_0 : Int) (a1_1 : Int) (a1_2 : Int) (a1_3 : Int) (a1_4 : ByteArray) (a1_5 : ByteArray) : Option (List S24 × Int) :=
  if (l0.all smallE && smallE ⟨a1_0, a1_1, a1_2, a1_3, a1_4, a1_5⟩) = true then some (postL l0 ⟨a1_0, a1_1, a1_2, a1_3, a1_4, a1_5⟩) else none
theorem RowPost.later {w w1 w2 : World} {r1 : List S24} {r2 : Int} {e : Ending} (hb : Below w.heap.size w w1) (h : RowPost w1 r1 r2 e w2) : RowPost w r1 r2 e w2 := by
  obtain ⟨v, he, hR, hb2⟩ := h
  exact ⟨v, he, Kd.R_lower hR hb.size, below_step hb hb2⟩
set_option maxHeartbeats 8000000 in
set_option maxRecDepth 100000 in
theorem ledger_Post.calls (A0 : Option Addr) (c0 : Nat) (l0 : List S24) (a1_0 : Int) (a1_1 : Int) (a1_2 : Int) (a1_3 : Int) (a1_4 : ByteArray) (a1_5 : ByteArray) (r1 : List S24) (r2 : Int) (w : World) (hr0 : Kd.C k24 w A0 l0.length l0) (hc0 : l0.length ≤ c0) (h : ledger_Post.f l0 a1_0 a1_1 a1_2 a1_3 a1_4 a1_5 = some (r1, r2)) :
    Calls Try.prog 13 #[.slice A0 l0.length c0, .agg #[.int .i64 a1_0, .int .i64 a1_1, .int .i64 a1_2, .int .i64 a1_3, .string a1_4, .string a1_5]] w fun e w' => ∃ v0_ : Value, e = .returned (.tuple #[v0_, .int .i64 r2]) ∧ Kd.R k24 24 w' w.heap.size (fun _ => True) v0_ r1 ∧ Below w.heap.size w w' := by
  show Calls _ _ _ _ (RowPost w r1 r2)
  unfold ledger_Post.f at h
  generalize hx : (⟨a1_0, a1_1, a1_2, a1_3, a1_4, a1_5⟩ : S24) = x at h
  have hx0 : a1_0 = x.f0 := by rw [← hx]
  have hx1 : a1_1 = x.f1 := by rw [← hx]
  have hx2 : a1_2 = x.f2 := by rw [← hx]
  have hx3 : a1_3 = x.f3 := by rw [← hx]
  have hx4 : a1_4 = x.f4 := by rw [← hx]
  have hx5 : a1_5 = x.f5 := by rw [← hx]
  subst hx0 hx1 hx2 hx3 hx4 hx5
  clear hx
  by_cases hs : (l0.all smallE && smallE x) = true
  · rw [if_pos hs] at h
    have hr := Option.some.inj h
    rw [Bool.and_eq_true] at hs
    obtain ⟨hs0, hsx⟩ := hs
    have HR0 := Aside0.mk hr0
    have HC0 := Aside0.mk hc0
    have HV := Aside0.mk (ledger_valid_f x hsx)
    have HI := Aside0.mk (fun (W : World) (hW : Kd.C k24 W A0 l0.length l0) => ledger_index_calls A0 c0 l0 W hW hc0 hs0)
    have HB := Aside0.mk (Below.refl w.heap.size w)
    clear hr0 hc0 h hs0 hsx
    unfold postL at hr
    by_cases h1 : validL l0 = true
    · by_cases h2 : validE x = true
      · rw [h1, h2, Bool.and_self, if_pos rfl] at hr
        have hid := validE_id h2
        have hln := validL_len h1
        have hwf : Aside0 ((Lit.int .i64 x.f0).wf = true) := ⟨WalkArith.wf_i64 (by omega)⟩
        have HRR : Aside0 (postF l0 x = (r1, r2)) := ⟨hr⟩
        have HP : Aside0 (∀ (W : World) (b n : Nat), Kd.C k24 W A0 l0.length l0 → MapAt W Try.prog 3 b (intF encE (idF l0)) n → Calls Try.prog 29 #[.slice A0 l0.length c0, .map (some b), .agg #[.int .i64 x.f0, .int .i64 x.f1, .int .i64 x.f2, .int .i64 x.f3, .string x.f4, .string x.f5]] W (RowPost W (postF l0 x).1 (postF l0 x).2)) :=
          ⟨fun W b n hW hM => ledger_post_calls A0 c0 l0 b n x W hW HC0.out hln hM hwf.out⟩
        rw [h2] at HV
        have H1 := Aside0.mk h1
        clear hr hid h1 h2 hln
        go_enter Try.func13, Try.ntmps13
        go_wp2_with (first
          | (go_at_call 27; (with_reducible refine (HI.out _ ?s1).mono ?_); (case s1 => exact Kd.C_alloc HR0.out _); rintro e w1 ⟨mb, rfl, hb, hm⟩; rw [H1.out]; obtain ⟨b, rfl, hle, hM⟩ := hm H1.out; have HM := Aside0.mk hM; have HB1 := Aside0.mk hb; have hz : w.heap.size < w1.heap.size := (by have := hb.size; simp at this; omega); obtain ⟨hbc, hbf⟩ := bcell hb; clear hm hM hb hle)
          | (go_at_call 28; (with_reducible refine (ledger_valid.calls x.f0 x.f1 x.f2 x.f3 x.f4 x.f5 true _ HV.out).mono ?_); rintro e w2 ⟨rfl, hb⟩; have HB2 := Aside0.mk hb; obtain ⟨hbc2, hbf2⟩ := bcell hb; clear hb)
          | (go_at_call 29; (with_reducible refine (HP.out _ b l0.length ?s1 ?s2).mono ?_); (case s1 => exact Kd.C_below (Kd.C_below (Kd.C_alloc HR0.out _) HB1.out) HB2.out); (case s2 => exact HM.out.kept HB2.out); rintro e w3 ⟨v3, rfl, hR3, hb3⟩))
        go_ret2
        have h3 := HRR.out
        refine RowPost.later (w1 := w2) (below_step (below_step (below_alloc HB.out _) HB1.out) HB2.out) ⟨v3, ?_, ?_, hb3⟩
        · rw [h3]; rfl
        · rw [h3] at hR3; exact hR3
      · rw [h1, show validE x = false by simpa using h2] at hr
        rw [Bool.and_false, if_neg (by decide)] at hr
        rw [show validE x = false by simpa using h2] at HV
        have H1 := Aside0.mk h1
        simp only [Prod.mk.injEq] at hr
        obtain ⟨rfl, rfl⟩ := hr
        clear h1 h2
        go_enter Try.func13, Try.ntmps13
        go_wp2_with (first
          | (go_at_call 27; (with_reducible refine (HI.out _ ?s1).mono ?_); (case s1 => exact Kd.C_alloc HR0.out _); rintro e w1 ⟨mb, rfl, hb, _⟩; rw [H1.out]; have HB1 := Aside0.mk hb; have hz : w.heap.size < w1.heap.size := (by have := hb.size; simp at this; omega); obtain ⟨hbc, hbf⟩ := bcell hb; clear hb)
          | (go_at_call 28; (with_reducible refine (ledger_valid.calls x.f0 x.f1 x.f2 x.f3 x.f4 x.f5 false _ HV.out).mono ?_); rintro e w2 ⟨rfl, hb⟩; have HB2 := Aside0.mk hb; clear hb))
        go_ret2
        exact ⟨_, rfl, Kd.R_nil _ _ _ _ _, below_step (below_step (below_alloc HB.out _) HB1.out) HB2.out⟩
    · have h1' : validL l0 = false := by simpa using h1
      rw [h1', Bool.false_and, if_neg (by decide)] at hr
      have H1 := Aside0.mk h1'
      simp only [Prod.mk.injEq] at hr
      obtain ⟨rfl, rfl⟩ := hr
      clear h1 h1'
      go_enter Try.func13, Try.ntmps13
      go_wp2_with ((go_at_call 27; (with_reducible refine (HI.out _ ?s1).mono ?_); (case s1 => exact Kd.C_alloc HR0.out _); rintro e w1 ⟨mb, rfl, hb, _⟩; rw [H1.out]; have HB1 := Aside0.mk hb; clear hb))
      go_ret2
      exact ⟨_, rfl, Kd.R_nil _ _ _ _ _, below_step (below_alloc HB.out _) HB1.out⟩
  · rw [if_neg hs] at h; cases h
end Go.Proofs.Ytnheelncgpgkiaa.P
