/- The contracts of the closure in ledger.Balance, and of ledger.sum with it. -/
import Derived.Test.YtnheelncgpgkiaaGValid
namespace Go.Proofs.Ytnheelncgpgkiaa.P
open Go.RowKit Go.Proofs.YtnheelncgpgkiaaW.PrintWords Go.Proofs.YtnheelncgpgkiaaW.PrintLast Go.Proofs.YtnheelncgpgkiaaW.PrintMore Go.Proofs.Ytnheelncgpgkiaa.M
set_option linter.unusedVariables false
set_option linter.unusedSimpArgs false

set_option maxHeartbeats 8000000 in
set_option maxRecDepth 100000 in
theorem ledger_Balance1_calls (x : S24) (acc : ByteArray) (day known : Int) (bd bk ba : Nat) (w : World) (hd : w.cell? ⟨bd, 0, none⟩ = some (.int .i64 day)) (hk : w.cell? ⟨bk, 0, none⟩ = some (.int .i64 known)) (ha : w.cell? ⟨ba, 0, none⟩ = some (.string acc)) (hc : 1 ≤ x.f3) (hc2 : x.f3 ≤ 1000000000) :
    Calls Try.prog 36 #[.agg #[.int .i64 x.f0, .int .i64 x.f1, .int .i64 x.f2, .int .i64 x.f3, .string x.f4, .string x.f5], .pointer (some ⟨bd, 0, none⟩), .pointer (some ⟨bk, 0, none⟩), .pointer (some ⟨ba, 0, none⟩)] w fun e w' => e = .returned (.int .i64 (amt x acc day known)) ∧ Below w.heap.size w w' := by
  have hu24 := Try.underlying24
  have HB := Aside0.mk (Below.refl w.heap.size w)
  have hd1 := fun o => ((below_alloc HB.out o).cell (World.block_lt_of_cell? w _ hd)).trans hd
  have hk1 := fun o => ((below_alloc HB.out o).cell (World.block_lt_of_cell? w _ hk)).trans hk
  have ha1 := fun o => ((below_alloc HB.out o).cell (World.block_lt_of_cell? w _ ha)).trans ha
  clear hd hk ha
  by_cases h1 : day < x.f1
  · rw [show amt x acc day known = 0 by unfold amt; rw [if_pos (.inl h1)]]
    have e1 : decide (day < x.f1) = true := decide_eq_true h1
    clear h1
    go_enter Try.func36, Try.ntmps36
    go_wp2
    go_ret
    exact ⟨rfl, below_alloc HB.out _⟩
  · by_cases h2 : known < x.f2
    · rw [show amt x acc day known = 0 by unfold amt; rw [if_pos (.inr h2)]]
      have e1 : decide (day < x.f1) = false := decide_eq_false h1
      have e2 : decide (known < x.f2) = true := decide_eq_true h2
      clear h1 h2
      go_enter Try.func36, Try.ntmps36
      go_wp2
      go_ret
      exact ⟨rfl, below_alloc HB.out _⟩
    · have e1 : decide (day < x.f1) = false := decide_eq_false h1
      have e2 : decide (known < x.f2) = false := decide_eq_false h2
      by_cases h3 : (x.f4.toList == acc.toList) = true
      · rw [show amt x acc day known = x.f3 by unfold amt; rw [if_neg (by omega), if_pos h3]]
        clear h1 h2
        go_enter Try.func36, Try.ntmps36
        go_wp2
        go_ret
        exact ⟨rfl, below_alloc HB.out _⟩
      · have h3' : (x.f4.toList == acc.toList) = false := by simpa using h3
        by_cases h4 : (x.f5.toList == acc.toList) = true
        · rw [show amt x acc day known = -x.f3 by unfold amt; rw [if_neg (by omega), if_neg h3, if_pos h4]]
          clear h1 h2 h3
          go_enter Try.func36, Try.ntmps36
          go_wp2
          go_ret
          exact ⟨rfl, below_alloc HB.out _⟩
        · rw [show amt x acc day known = 0 by unfold amt; rw [if_neg (by omega), if_neg h3, if_neg h4]]
          have h4' : (x.f5.toList == acc.toList) = false := by simpa using h4
          clear h1 h2 h3 h4
          go_enter Try.func36, Try.ntmps36
          go_wp2
          go_ret
          exact ⟨rfl, below_alloc HB.out _⟩

set_option maxHeartbeats 8000000 in
set_option maxRecDepth 100000 in
theorem ledger_sum_calls (A0 : Option Addr) (c0 : Nat) (l0 : List S24) (acc : ByteArray) (day known : Int) (bd bk ba : Nat) (w : World) (hr0 : Kd.C k24 w A0 l0.length l0) (hl0 : l0.length ≤ 4000) (hv : ∀ x ∈ l0, validE x = true)
    (hd : w.cell? ⟨bd, 0, none⟩ = some (.int .i64 day)) (hk : w.cell? ⟨bk, 0, none⟩ = some (.int .i64 known)) (ha : w.cell? ⟨ba, 0, none⟩ = some (.string acc)) :
    Calls Try.prog 35 #[.slice A0 l0.length c0, .func (.func 36) #[] #[.pointer (some ⟨bd, 0, none⟩), .pointer (some ⟨bk, 0, none⟩), .pointer (some ⟨ba, 0, none⟩)]] w fun e w' => e = .returned (.int .i64 (balF acc day known l0)) ∧ Below w.heap.size w w' := by
  have hu24 := Try.underlying24
  have HR0 := Aside0.mk hr0
  have HV := Aside0.mk hv
  have HD := Aside0.mk hd
  have HKn := Aside0.mk hk
  have HA := Aside0.mk ha
  have HB := Aside0.mk (Below.refl w.heap.size w)
  clear hr0 hv hd hk ha
  go_enter Try.func35, Try.ntmps35
  go_wp2
  go_loopg [5, 10] l0.length (fun gk v5 v10 w' => ∃ i : Nat, v10 = .int .i64 i ∧ v5 = .int .i64 (balF acc day known (l0.take i)) ∧ Aside0 (i ≤ l0.length ∧ gk = l0.length - i) ∧ Aside0 (Below w.heap.size w w'))
  case atStart => exact ⟨0, rfl, rfl, ⟨Nat.zero_le _, rfl⟩, HB⟩
  case round =>
    obtain ⟨i, rfl, rfl, HI, HBr⟩ := hrel
    have hi := HI.out.1
    by_cases hlt : i < l0.length
    · obtain ⟨ad, e, x0, x1, x2, x3, x4, x5⟩ := at_T24 HR0.out (i : Int) (by omega) (by omega)
      cases e
      simp only [Int.toNat_natCast] at x0 x1 x2 x3 x4 x5
      replace x0 := (HBr.out.cell (World.block_lt_of_cell? w _ x0)).trans x0
      replace x1 := (HBr.out.cell (World.block_lt_of_cell? w _ x1)).trans x1
      replace x2 := (HBr.out.cell (World.block_lt_of_cell? w _ x2)).trans x2
      replace x3 := (HBr.out.cell (World.block_lt_of_cell? w _ x3)).trans x3
      replace x4 := (HBr.out.cell (World.block_lt_of_cell? w _ x4)).trans x4
      replace x5 := (HBr.out.cell (World.block_lt_of_cell? w _ x5)).trans x5
      have hvx : validE (rd_T24 l0 (i : Int)) = true := by rw [rd_get hlt]; exact HV.out _ (List.getElem_mem hlt)
      have hts : balF acc day known (l0.take (i + 1)) = balF acc day known (l0.take i) + amt (rd_T24 l0 (i : Int)) acc day known := by
        rw [take_snoc hlt, balF_append]; simp [balF]
      have hbd := balF_bound (l := l0.take i) (fun x hx => HV.out x (List.mem_of_mem_take hx)) acc day known
      rw [List.length_take] at hbd
      have hb1 : -4000000000000 ≤ balF acc day known (l0.take i) ∧ balF acc day known (l0.take i) ≤ 4000000000000 := by
        have : ((min i l0.length : Nat) : Int) ≤ 4000 := by omega
        omega
      have hab := amt_bound hvx acc day known
      have hcc := validE_cents hvx
      clear hbd hvx
      generalize rd_T24 l0 (i : Int) = x at *
      have HTS := Aside0.mk hts
      clear hts
      generalize hS : balF acc day known (l0.take i) = S at *
      have HS := Aside0.mk hS
      clear hS
      generalize hM : amt x acc day known = M at *
      have HM := Aside0.mk hM
      clear hM
      have hcl : Aside0 (∀ W : World, Below w.heap.size w W → Calls Try.prog 36 #[.agg #[.int .i64 x.f0, .int .i64 x.f1, .int .i64 x.f2, .int .i64 x.f3, .string x.f4, .string x.f5], .pointer (some ⟨bd, 0, none⟩), .pointer (some ⟨bk, 0, none⟩), .pointer (some ⟨ba, 0, none⟩)] W fun e w' => e = .returned (.int .i64 M) ∧ Below W.heap.size W w') := ⟨fun W hW => by
        rw [← HM.out]
        exact ledger_Balance1_calls x acc day known bd bk ba W ((hW.cell (World.block_lt_of_cell? w _ HD.out)).trans HD.out) ((hW.cell (World.block_lt_of_cell? w _ HKn.out)).trans HKn.out) ((hW.cell (World.block_lt_of_cell? w _ HA.out)).trans HA.out) hcc.1 hcc.2⟩
      go_wp2_with (go_at_call 36; (with_reducible refine (hcl.out _ ?s1).mono ?_); (case s1 => exact below_alloc HBr.out _); rintro e w2 ⟨rfl, hb⟩; have HB2 := Aside0.mk hb; clear hb)
      go_roundg (l0.length - (i + 1))
      case measure => have := HI.out; omega
      case rel => exact ⟨i + 1, by go_num, by rw [HTS.out], ⟨by omega, rfl⟩, ⟨below_step (below_alloc HBr.out _) HB2.out⟩⟩
    · obtain rfl : i = l0.length := by omega
      rw [List.take_length] at *
      go_wp2
      go_ret
      exact ⟨rfl, HBr.out⟩
end Go.Proofs.Ytnheelncgpgkiaa.P
