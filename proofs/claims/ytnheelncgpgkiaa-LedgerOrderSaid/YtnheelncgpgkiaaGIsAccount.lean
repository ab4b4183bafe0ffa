/- The contract of ledger.isAccount, by hand: its list of bytes is made anew. -/
import Derived.Test.YtnheelncgpgkiaaLSpec
import Derived.Test.YtnheelncgpgkiaaPR2
namespace Go.Proofs.Ytnheelncgpgkiaa.P
open Go.RowKit Go.Proofs.YtnheelncgpgkiaaW.PrintWords Go.Proofs.YtnheelncgpgkiaaW.PrintLast Go.Proofs.YtnheelncgpgkiaaW.PrintMore
set_option linter.unusedVariables false
set_option linter.unusedSimpArgs false

theorem okc_letter {i : Nat} {c : Int} (h1 : 97 ≤ c) (h2 : c ≤ 122) : okc i c = true := by simp [okc, h1, h2]
set_option maxHeartbeats 8000000 in
set_option maxRecDepth 100000 in
theorem ledger_isAccount.calls (a0 : ByteArray) (r : Bool) (w : World) (h : ledger_isAccount.f a0 = some r) :
    Calls Try.prog 33 #[.string a0] w fun e w' => e = .returned (.bool r) ∧ Below w.heap.size w w' := by
  unfold ledger_isAccount.f at h
  by_cases hs : small a0 = true
  · rw [if_pos hs] at h
    have hr : accB a0 = r := Option.some.inj h
    have HR := Aside0.mk hr
    clear hr h
    have hsz : a0.size ≤ 9223372036854775807 := of_decide_eq_true hs
    clear hs
    have hread := Aside0.mk (bytes_reads w 5 a0 hsz)
    have hbel := Aside0.mk (bytes_below (Below.refl w.heap.size w) (Nat.le_refl _) 5 a0)
    have kb := fun W => print_bytes (P := Try.prog) 9 66 5 Try.underlying9 Try.underlying66 Try.underlying5 a0 W
    go_enter Try.func33, Try.ntmps33
    go_wp2
    go_loopg [9] a0.size (fun gk v9 w' => ∃ i : Nat, v9 = .int .i64 i ∧ Aside0 (i ≤ a0.size ∧ gk = a0.size - i) ∧ Aside0 (∀ j, j < i → okc j (bt a0 j) = true) ∧ Drawn0 (Lib.bytesWorld w 5 a0) w')
    case atStart => exact ⟨0, rfl, ⟨Nat.zero_le _, rfl⟩, ⟨fun j hj => absurd hj (Nat.not_lt_zero j)⟩, Drawn0.refl _⟩
    case round =>
      obtain ⟨i, rfl, HI, HO, hd⟩ := hrel
      have hi := HI.out.1
      by_cases hlt : i < a0.size
      · obtain ⟨ad, e, hcell⟩ := hread.out.at_ (i : Int) (by omega) (by omega)
        rw [rd_bytesOf] at hcell
        cases e
        have hcell' : wr.cell? ⟨w.heap.size, i, none⟩ = some (.int .u8 (bt a0 i)) := by
          rw [Int.toNat_natCast, add_plain] at hcell
          exact (hd.below.cell (World.block_lt_of_cell? _ _ hcell)).trans hcell
        have hb := bt_range a0 (i : Int)
        have hOk : okc i (bt a0 i) = okc i (bt a0 i) := rfl
        clear hcell hOk
        generalize hc : bt a0 (i : Int) = c at *
        have HC := Aside0.mk hc
        clear hc
        by_cases hok : okc i c = true
        · have hst : (97 ≤ c ∧ c ≤ 122) ∨ ((i : Int) ≠ 0 ∧ c = 95) ∨ ((i : Int) ≠ 0 ∧ 48 ≤ c ∧ c ≤ 57) := by
            simp only [okc, Bool.or_eq_true, Bool.and_eq_true, decide_eq_true_eq, Bool.not_eq_true', beq_eq_false_iff_ne, beq_iff_eq] at hok
            omega
          have HOK := Aside0.mk hok
          clear hok
          have hnx : Aside0 (∀ j, j < i + 1 → okc j (bt a0 j) = true) := ⟨fun j hj => by
            rcases Nat.lt_or_ge j i with h | h
            · exact HO.out j h
            · obtain rfl : j = i := by omega
              rw [HC.out]; exact HOK.out⟩
          rcases hst with ⟨h1, h2⟩ | ⟨h1, h2⟩ | ⟨h1, h2, h3⟩
          · go_wp2
            go_roundg (a0.size - (i + 1))
            case measure => have := HI.out; omega
            case rel => exact ⟨i + 1, by go_num, ⟨by omega, rfl⟩, hnx, hd⟩
          · have e1 : ((i : Int) == 0) = false := beq_eq_false_iff_ne.2 h1
            have e2 : (c != 95) = false := by rw [h2]; rfl
            have e3 : c < 97 := by omega
            clear h1 h2
            go_wp2
            go_roundg (a0.size - (i + 1))
            case measure => have := HI.out; omega
            case rel => exact ⟨i + 1, by go_num, ⟨by omega, rfl⟩, hnx, hd⟩
          · have e1 : ((i : Int) == 0) = false := beq_eq_false_iff_ne.2 h1
            have e2 : (c != 95) = true := bne_iff_ne.2 (by omega)
            clear h1
            go_wp2
            go_roundg (a0.size - (i + 1))
            case measure => have := HI.out; omega
            case rel => exact ⟨i + 1, by go_num, ⟨by omega, rfl⟩, hnx, hd⟩
        · have hst : ((i : Int) = 0 ∧ c < 97) ∨ ((i : Int) = 0 ∧ 122 < c) ∨ ((i : Int) ≠ 0 ∧ c < 48) ∨ ((i : Int) ≠ 0 ∧ 57 < c ∧ c < 97 ∧ c ≠ 95) ∨ ((i : Int) ≠ 0 ∧ 122 < c) := by
            simp only [okc, Bool.or_eq_true, Bool.and_eq_true, decide_eq_true_eq, Bool.not_eq_true', beq_eq_false_iff_ne, beq_iff_eq] at hok
            omega
          have hno : accB a0 = false := accB_not i hlt (by rw [HC.out]; simpa using hok)
          have hr2 : r = false := HR.out.symm.trans hno
          subst hr2
          clear hok hno
          rcases hst with ⟨h1, h2⟩ | ⟨h1, h2⟩ | ⟨h1, h2⟩ | ⟨h1, h2, h3, h4⟩ | ⟨h1, h2⟩
          · obtain rfl : i = 0 := by omega
            have e3 : decide (97 ≤ c) = false := decide_eq_false (by omega)
            clear h1
            go_wp2
            go_ret
            exact ⟨rfl, hbel.out.trans (hd.below.mono (by have := hbel.out.size; omega))⟩
          · obtain rfl : i = 0 := by omega
            have e3 : decide (97 ≤ c) = true := decide_eq_true (by omega)
            have e4 : decide (c ≤ 122) = false := decide_eq_false (by omega)
            clear h1
            go_wp2
            go_ret
            exact ⟨rfl, hbel.out.trans (hd.below.mono (by have := hbel.out.size; omega))⟩
          · have e1 : ((i : Int) == 0) = false := beq_eq_false_iff_ne.2 h1
            have e2 : (c != 95) = true := bne_iff_ne.2 (by omega)
            have e3 : decide (97 ≤ c) = false := decide_eq_false (by omega)
            have e4 : decide (c < 48) = true := decide_eq_true h2
            clear h1
            go_wp2
            go_ret
            exact ⟨rfl, hbel.out.trans (hd.below.mono (by have := hbel.out.size; omega))⟩
          · have e1 : ((i : Int) == 0) = false := beq_eq_false_iff_ne.2 h1
            have e2 : (c != 95) = true := bne_iff_ne.2 h4
            have e3 : decide (97 ≤ c) = false := decide_eq_false (by omega)
            have e4 : decide (c < 48) = false := decide_eq_false (by omega)
            have e5 : decide (57 < c) = true := decide_eq_true h2
            clear h1 h4
            go_wp2
            go_ret
            exact ⟨rfl, hbel.out.trans (hd.below.mono (by have := hbel.out.size; omega))⟩
          · have e1 : ((i : Int) == 0) = false := beq_eq_false_iff_ne.2 h1
            have e2 : (c != 95) = true := bne_iff_ne.2 (by omega)
            have e3 : decide (97 ≤ c) = true := decide_eq_true (by omega)
            have e6 : decide (c ≤ 122) = false := decide_eq_false (by omega)
            have e4 : decide (c < 48) = false := decide_eq_false (by omega)
            have e5 : decide (57 < c) = true := decide_eq_true (by omega)
            clear h1
            go_wp2
            go_ret
            exact ⟨rfl, hbel.out.trans (hd.below.mono (by have := hbel.out.size; omega))⟩
      · obtain rfl : i = a0.size := by omega
        have hr1 := accB_of HO.out
        have hw : ledger_within.f (a0.size : Int) 1 16 = some r := by
          rw [← HR.out, hr1, ledger_within.f]
          by_cases h1 : (1 : Int) ≤ a0.size
          · rw [if_pos h1, decide_eq_true (show 1 ≤ a0.size by omega), Bool.true_and]
            congr 1
            rw [Bool.eq_iff_iff]; simp; omega
          · rw [if_neg h1, decide_eq_false (show ¬ 1 ≤ a0.size by omega), Bool.false_and]
        have HW := Aside0.mk hw
        clear hr1 hw hlt
        go_wp2_with (go_at_call 37; (with_reducible refine (ledger_within.calls _ _ _ r _ HW.out).mono ?_); rintro e w' ⟨rfl, ⟨nd, rfl⟩⟩)
        go_ret
        exact ⟨rfl, hbel.out.trans ((Drawn0.step hd nd).below.mono (by have := hbel.out.size; omega))⟩
  · rw [if_neg hs] at h; cases h

end Go.Proofs.Ytnheelncgpgkiaa.P
