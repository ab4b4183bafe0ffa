/- The contract of ledger.index, by hand: a map from the numbers to the entries is made in a loop. -/
import Derived.Test.YtnheelncgpgkiaaLSpec
import Derived.Test.YtnheelncgpgkiaaPXledgervalid
import Derived.Test.YtnheelncgpgkiaaMapLib
namespace Go.Proofs.Ytnheelncgpgkiaa.P
open Go.RowKit Go.Proofs.YtnheelncgpgkiaaW.PrintWords Go.Proofs.YtnheelncgpgkiaaW.PrintLast Go.Proofs.YtnheelncgpgkiaaW.PrintMore Go.Proofs.Ytnheelncgpgkiaa.M
open Go.Maps (Keyed int_keyed keyOf_int_mk)
set_option linter.unusedVariables false
set_option linter.unusedSimpArgs false

theorem keyInt : Keyed Try.prog 3 := int_keyed Try.underlying3
theorem zeroE24 (W : World) : (zeroValue 24).run Try.prog W = .ok (encE z24) W := by kernel_rfl
theorem ledger_valid_f (x : S24) (hs : smallE x = true) : ledger_valid.f x.f0 x.f1 x.f2 x.f3 x.f4 x.f5 = some (validE x) := by
  unfold smallE at hs
  rw [Bool.and_eq_true] at hs
  have hw : ∀ a b c : Int, ledger_within.f a b c = some (decide (b ≤ a) && decide (a ≤ c)) := by
    intro a b c
    unfold ledger_within.f
    by_cases h : b ≤ a
    · rw [if_pos h, decide_eq_true h, Bool.true_and]
    · rw [if_neg h, decide_eq_false h, Bool.false_and]
  have hd : ∀ a : Int, ledger_isDay.f a = some (decide (0 ≤ a) && decide (a ≤ 36524)) := by
    intro a
    unfold ledger_isDay.f
    rw [hw]; rfl
  unfold ledger_valid.f validE
  rw [hw, hd, hd, hw, ledger_isAccount.f, if_pos hs.1, ledger_isAccount.f, if_pos hs.2]
  simp only [Option.bind_some]
  cases (decide (1 ≤ x.f0) && decide (x.f0 ≤ 1000000)) <;> cases (decide (0 ≤ x.f1) && decide (x.f1 ≤ 36524)) <;> cases (decide (0 ≤ x.f2) && decide (x.f2 ≤ 36524)) <;>
    cases (decide (1 ≤ x.f3) && decide (x.f3 ≤ 1000000000)) <;> cases accB x.f4 <;> cases accB x.f5 <;> rfl

/-- What index leaves. -/
def IndexPost (l0 : List S24) (w : World) (e : Ending) (w' : World) : Prop :=
  ∃ mb, e = .returned (.tuple #[.map mb, .bool (validL l0)]) ∧ Below w.heap.size w w' ∧ (validL l0 = true → ∃ b, mb = some b ∧ w.heap.size ≤ b ∧ MapAt w' Try.prog 3 b (intF encE (idF l0)) l0.length)
theorem IndexPost.no {l0 : List S24} {w w' : World} {mb : Option Nat} (h : validL l0 = false) (hb : Below w.heap.size w w') : IndexPost l0 w (.returned (.tuple #[.map mb, .bool false])) w' :=
  ⟨mb, by rw [h], hb, fun h' => by rw [h] at h'; cases h'⟩

set_option maxHeartbeats 8000000 in
set_option maxRecDepth 100000 in
theorem ledger_index_calls (A0 : Option Addr) (c0 : Nat) (l0 : List S24) (w : World) (hr0 : Kd.C k24 w A0 l0.length l0) (hc0 : l0.length ≤ c0) (hs0 : l0.all smallE = true) :
    Calls Try.prog 27 #[.slice A0 l0.length c0] w (IndexPost l0 w) := by
  have hu24 := Try.underlying24
  have HR0 := Aside0.mk hr0
  have HS := Aside0.mk hs0
  have hlm : l0.length ≤ 9223372036854775807 := hr0.2.1
  clear hr0 hc0 hs0
  have HB := Aside0.mk (Below.refl w.heap.size w)
  by_cases hlong : 4000 < l0.length
  · have hv := Aside0.mk (validL_long hlong)
    have e1 : decide ((4000 : Int) < (l0.length : Int)) = true := decide_eq_true (by omega)
    go_enter Try.func27, Try.ntmps27
    go_wp2
    go_ret2
    exact IndexPost.no hv.out HB.out
  · have e1 : decide ((4000 : Int) < (l0.length : Int)) = false := decide_eq_false (by omega)
    have hmm := fun W => run_makeMap_n (P := Try.prog) Try.underlying48 l0.length W
    go_enter Try.func27, Try.ntmps27
    go_wp2
    have HM0 := Aside0.mk (MapAt.made w Try.prog 3)
    have HB0 := Aside0.mk (below_alloc HB.out (.map #[] 0))
    clear HB hmm
    go_loopg [15] l0.length (fun gk v15 w' => ∃ i : Nat, v15 = .int .i64 i ∧ Aside0 (i ≤ l0.length ∧ gk = l0.length - i) ∧ Aside0 (∀ j, j < i → validE (rd_T24 l0 j) = true) ∧
      Aside0 (MapAt w' Try.prog 3 w.heap.size (intF encE (idF (l0.take i))) (cntN l0 i)) ∧ Aside0 (Below w.heap.size w w'))
    case atStart => exact ⟨0, rfl, ⟨Nat.zero_le _, rfl⟩, ⟨fun j hj => absurd hj (Nat.not_lt_zero j)⟩, ⟨by rw [List.take_zero, idF_nil, ← intF_none]; exact HM0.out⟩, HB0⟩
    case round =>
      obtain ⟨i, rfl, HI, HV, HM, HB⟩ := hrel
      have hi := HI.out.1
      by_cases hlt : i < l0.length
      · obtain ⟨ad, e, x0, x1, x2, x3, x4, x5⟩ := at_T24 HR0.out (i : Int) (by omega) (by omega)
        cases e
        simp only [Int.toNat_natCast] at x0 x1 x2 x3 x4 x5
        replace x0 := (HB.out.cell (World.block_lt_of_cell? w _ x0)).trans x0
        replace x1 := (HB.out.cell (World.block_lt_of_cell? w _ x1)).trans x1
        replace x2 := (HB.out.cell (World.block_lt_of_cell? w _ x2)).trans x2
        replace x3 := (HB.out.cell (World.block_lt_of_cell? w _ x3)).trans x3
        replace x4 := (HB.out.cell (World.block_lt_of_cell? w _ x4)).trans x4
        replace x5 := (HB.out.cell (World.block_lt_of_cell? w _ x5)).trans x5
        have hsm := small_rd HS.out hlt
        have hf := Aside0.mk (ledger_valid_f _ hsm)
        clear hsm
        by_cases hv : validE (rd_T24 l0 (i : Int)) = true
        · rw [hv] at hf
          have hid := validE_id hv
          have HV' : Aside0 (∀ j, j < i + 1 → validE (rd_T24 l0 j) = true) := ⟨fun j hj => by
            rcases Nat.lt_or_ge j i with h | h
            · exact HV.out j h
            · obtain rfl : j = i := by omega
              exact hv⟩
          have HT := Aside0.mk (take_snoc hlt)
          clear hv
          generalize hx : rd_T24 l0 (i : Int) = x at *
          have HX := Aside0.mk hx
          clear hx
          go_wp2_with (first
            | (go_at_call 28; (with_reducible refine (ledger_valid.calls x.f0 x.f1 x.f2 x.f3 x.f4 x.f5 true _ hf.out).mono ?_); rintro e w2 ⟨rfl, hb⟩; have hb' := Aside0.mk hb; obtain ⟨hbc, hbf⟩ := bcell hb; clear hb)
            | (at_mapUpdate; refine wpList_store rfl (.tmp 22) (.tmp 24) (.tmp 25) 48 rfl 3 24 keyInt Try.underlying48 w.heap.size (cntN l0 i) (intF encE (idF (l0.take i))) rfl ?hM (.int .i64 x.f0) (encE x) (.int .i64 x.f0) rfl rfl (keyOf_int_mk Try.underlying3 (WalkArith.wf_i64 (by omega))) ?_; (case hM => exact (HM.out.alloc _).kept hb'.out); intro w3 hm3 hg3))
          have hm4 : Aside0 (MapAt w3 Try.prog 3 w.heap.size (intF encE (idF (l0.take (i + 1)))) (cntN l0 (i + 1))) := ⟨by
            rw [HT.out, idF_snoc, ← intF_put]
            rw [intF_some] at hm3
            have : cntN l0 (i + 1) = if (idF (l0.take i) x.f0).isSome then cntN l0 i else cntN l0 i + 1 := by rw [← HX.out]; rfl
            rw [this]; exact hm3⟩
          have hB4 : Aside0 (Below w.heap.size w w3) := ⟨by
            have h1 := below_step (below_alloc HB.out _) hb'.out
            exact h1.grown hg3 h1.size (by rintro k h; cases h; exact Nat.le_refl _)⟩
          clear hm3 hg3 hbc hbf hb'
          go_wp2
          go_roundg (l0.length - (i + 1))
          case measure => have := HI.out; omega
          case rel => exact ⟨i + 1, by go_num, ⟨by omega, rfl⟩, HV', hm4, hB4⟩
        · have hbad := Aside0.mk (validL_bad hlt (by simpa using hv))
          rw [show validE (rd_T24 l0 (i : Int)) = false by simpa using hv] at hf
          clear hv
          generalize hx : rd_T24 l0 (i : Int) = x at *
          have HX := Aside0.mk hx
          clear hx
          go_wp2_with ((go_at_call 28; (with_reducible refine (ledger_valid.calls x.f0 x.f1 x.f2 x.f3 x.f4 x.f5 false _ hf.out).mono ?_); rintro e w2 ⟨rfl, hb⟩; have hb' := Aside0.mk hb; obtain ⟨hbc, hbf⟩ := bcell hb; clear hb))
          go_ret2
          exact IndexPost.no hbad.out (below_step (below_alloc HB.out _) hb'.out)
      · obtain rfl : i = l0.length := by omega
        have hend := validL_end (by omega) HV.out
        have HE := Aside0.mk hend
        clear hend hlt
        go_wp2_with ((at_len; refine wpList_len rfl (.tmp 28) 48 rfl 3 24 Try.underlying48 w.heap.size (cntN l0 l0.length) _ rfl HM.out ?_))
        go_ret2
        refine ⟨some w.heap.size, ?_, HB.out, fun hv => ⟨w.heap.size, rfl, Nat.le_refl _, ?_⟩⟩
        · rw [HE.out]
          have : (cntN l0 l0.length == l0.length) = ((cntN l0 l0.length : Int) == (l0.length : Int)) := by
            rw [Bool.eq_iff_iff, beq_iff_eq, beq_iff_eq]; omega
          rw [this]; rfl
        · rw [HE.out, beq_iff_eq] at hv
          have := HM.out
          rw [hv, List.take_length] at this
          exact this

end Go.Proofs.Ytnheelncgpgkiaa.P
