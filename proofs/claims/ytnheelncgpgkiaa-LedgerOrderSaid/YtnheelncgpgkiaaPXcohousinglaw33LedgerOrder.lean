/- What functions of the program compute, and that they compute it: each function's Lean form and its contract, as the kit's print.py wrote them for this seat. Each contract's conditions stand in its statement. -/
import Derived.Test.YtnheelncgpgkiaaPR1
import Derived.Test.YtnheelncgpgkiaaPR2
import Derived.Test.YtnheelncgpgkiaaGAccounts
import Derived.Test.YtnheelncgpgkiaaGBalance
import Derived.Test.YtnheelncgpgkiaaGHead
import Derived.Test.YtnheelncgpgkiaaGValid
namespace Go.Proofs.Ytnheelncgpgkiaa.P
open Go.RowKit Go.Proofs.YtnheelncgpgkiaaW.PrintWords Go.Proofs.YtnheelncgpgkiaaW.PrintLast Go.Proofs.YtnheelncgpgkiaaW.PrintMore
attribute [local go_sem] max2_int min2_int max_two min_two max_three min_three max_four min_four   -- for this text's walks alone
set_option linter.unusedVariables false
set_option linter.unusedSimpArgs false

/-! ### cohousinglaw33_LedgerOrder: function 8 -/
mutual
def cohousinglaw33_LedgerOrder.j0 : Nat → List (S24) → Int → ByteArray → Int → Int → Bool → Bool → Option (Bool)
  | 0, _, _, _, _, _, _, _ => none
  | k + 1, x0, x1, x2, x3, x4, x11, x34 => if x34 = true then (some x11) else (if (wrap64 ((x0.length : Int) - 1)) = 0 then (none) else ((some (([] : List (S24)) : List (S24))).bind fun y345 => (if y345.length + x0.length < 2199023255552 then ((some (y345 ++ x0 : List (S24))).bind fun y348 => (if 0 ≤ (wrap64 ((Int.tmod (wrap64 (x1)) (wrap64 ((x0.length : Int) - 1))) + 1)) then (if (wrap64 ((Int.tmod (wrap64 (x1)) (wrap64 ((x0.length : Int) - 1))) + 1)) < (x0.length : Int) then (if 0 ≤ (Int.tmod (wrap64 (x1)) (wrap64 ((x0.length : Int) - 1))) then (if (Int.tmod (wrap64 (x1)) (wrap64 ((x0.length : Int) - 1))) < (x0.length : Int) then (if (Int.tmod (wrap64 (x1)) (wrap64 ((x0.length : Int) - 1))) < (y348.length : Int) then (if (wrap64 ((Int.tmod (wrap64 (x1)) (wrap64 ((x0.length : Int) - 1))) + 1)) < (y348.length : Int) then ((some ((y348.set ((Int.tmod (wrap64 (x1)) (wrap64 ((x0.length : Int) - 1))) : Int).toNat (⟨(rd_T24 x0 (wrap64 ((Int.tmod (wrap64 (x1)) (wrap64 ((x0.length : Int) - 1))) + 1))).f0, (rd_T24 x0 (wrap64 ((Int.tmod (wrap64 (x1)) (wrap64 ((x0.length : Int) - 1))) + 1))).f1, (rd_T24 x0 (wrap64 ((Int.tmod (wrap64 (x1)) (wrap64 ((x0.length : Int) - 1))) + 1))).f2, (rd_T24 x0 (wrap64 ((Int.tmod (wrap64 (x1)) (wrap64 ((x0.length : Int) - 1))) + 1))).f3, (rd_T24 x0 (wrap64 ((Int.tmod (wrap64 (x1)) (wrap64 ((x0.length : Int) - 1))) + 1))).f4, (rd_T24 x0 (wrap64 ((Int.tmod (wrap64 (x1)) (wrap64 ((x0.length : Int) - 1))) + 1))).f5⟩ : S24)).set ((wrap64 ((Int.tmod (wrap64 (x1)) (wrap64 ((x0.length : Int) - 1))) + 1)) : Int).toNat (⟨(rd_T24 x0 (Int.tmod (wrap64 (x1)) (wrap64 ((x0.length : Int) - 1)))).f0, (rd_T24 x0 (Int.tmod (wrap64 (x1)) (wrap64 ((x0.length : Int) - 1)))).f1, (rd_T24 x0 (Int.tmod (wrap64 (x1)) (wrap64 ((x0.length : Int) - 1)))).f2, (rd_T24 x0 (Int.tmod (wrap64 (x1)) (wrap64 ((x0.length : Int) - 1)))).f3, (rd_T24 x0 (Int.tmod (wrap64 (x1)) (wrap64 ((x0.length : Int) - 1)))).f4, (rd_T24 x0 (Int.tmod (wrap64 (x1)) (wrap64 ((x0.length : Int) - 1)))).f5⟩ : S24) : List (S24))).bind fun y354 => ((ledger_Accounts.f x0).bind fun bt355 => ((ledger_Accounts.f y354).bind fun bt359 => (if x11 = true then (if bt355.2 = bt359.2 then ((cohousingref33_SameNames.f k bt355.1 bt359.1).bind fun t363 => (if t363 = true then ((ledger_Valid.f y354).bind fun t364 => (cohousinglaw33_LedgerOrder.j1 k x0 x2 x3 x4 t364 (Int.tmod (wrap64 (x1)) (wrap64 ((x0.length : Int) - 1))) y354)) else (cohousinglaw33_LedgerOrder.j1 k x0 x2 x3 x4 false (Int.tmod (wrap64 (x1)) (wrap64 ((x0.length : Int) - 1))) y354))) else (cohousinglaw33_LedgerOrder.j1 k x0 x2 x3 x4 false (Int.tmod (wrap64 (x1)) (wrap64 ((x0.length : Int) - 1))) y354)) else (cohousinglaw33_LedgerOrder.j1 k x0 x2 x3 x4 false (Int.tmod (wrap64 (x1)) (wrap64 ((x0.length : Int) - 1))) y354))))) else (none)) else (none)) else (none)) else (none)) else (none)) else (none))) else (none))))
def cohousinglaw33_LedgerOrder.j1 : Nat → List (S24) → ByteArray → Int → Int → Bool → Int → List (S24) → Option (Bool)
  | 0, _, _, _, _, _, _, _ => none
  | k + 1, x0, x2, x3, x4, x11, x12, x13 => if 0 ≤ x12 then (if x12 < (x0.length : Int) then (if 0 ≤ (wrap64 (x12 + 1)) then (if (wrap64 (x12 + 1)) < (x0.length : Int) then ((some (([x2, (rd_T24 x0 x12).f4, (rd_T24 x0 x12).f5, (rd_T24 x0 (wrap64 (x12 + 1))).f4] : List ByteArray) : List ByteArray)).bind fun y368 => (cohousinglaw33_LedgerOrder.l0 k x0 x3 x4 x11 x13 y368 (y368.length : Int) 0)) else (none)) else (none)) else (none)) else (none)
def cohousinglaw33_LedgerOrder.l0 : Nat → List (S24) → Int → Int → Bool → List (S24) → List ByteArray → Int → Int → Option (Bool)
  | 0, _, _, _, _, _, _, _, _ => none
  | k + 1, x0, x3, x4, x11, x13, x103, x104, x105 => if x105 < x104 then (if 0 ≤ x105 then (if x105 < (x103.length : Int) then ((ledger_Balance.f x0 (rdOf ByteArray.empty x103 x105) x3 x4).bind fun bt372 => ((ledger_Balance.f x13 (rdOf ByteArray.empty x103 x105) x3 x4).bind fun bt374 => (if x11 = true then (if bt372.1 = bt374.1 then (cohousinglaw33_LedgerOrder.l0 k x0 x3 x4 (bt372.2 == bt374.2) x13 x103 x104 (wrap64 (x105 + 1))) else (cohousinglaw33_LedgerOrder.l0 k x0 x3 x4 false x13 x103 x104 (wrap64 (x105 + 1)))) else (cohousinglaw33_LedgerOrder.l0 k x0 x3 x4 false x13 x103 x104 (wrap64 (x105 + 1)))))) else (none)) else (none)) else (some x11)
end
def cohousinglaw33_LedgerOrder.f (k : Nat) (l0 : List (S24)) (a1 : Int) (a2 : ByteArray) (a3 : Int) (a4 : Int) : Option (Bool) := (cohousinglaw33_head.f).bind fun t343 => ((cohousinglaw33_usable.f k l0 a3 a4).bind fun t344 => (if t344 = true then (cohousinglaw33_LedgerOrder.j0 k l0 a1 a2 a3 a4 t343 (decide ((l0.length : Int) < 2))) else (cohousinglaw33_LedgerOrder.j0 k l0 a1 a2 a3 a4 t343 true)))
theorem cohousinglaw33_LedgerOrder.mono_l : ∀ k, (∀ y0 y1 y2 y3 y4 y5 y6, LeO (cohousinglaw33_LedgerOrder.j0 k y0 y1 y2 y3 y4 y5 y6) (cohousinglaw33_LedgerOrder.j0 (k + 1) y0 y1 y2 y3 y4 y5 y6)) ∧ (∀ y0 y1 y2 y3 y4 y5 y6, LeO (cohousinglaw33_LedgerOrder.j1 k y0 y1 y2 y3 y4 y5 y6) (cohousinglaw33_LedgerOrder.j1 (k + 1) y0 y1 y2 y3 y4 y5 y6)) ∧ (∀ y0 y1 y2 y3 y4 y5 y6 y7, LeO (cohousinglaw33_LedgerOrder.l0 k y0 y1 y2 y3 y4 y5 y6 y7) (cohousinglaw33_LedgerOrder.l0 (k + 1) y0 y1 y2 y3 y4 y5 y6 y7))
  | 0 => ⟨fun _ _ _ _ _ _ _ r h => by simp [cohousinglaw33_LedgerOrder.j0] at h, fun _ _ _ _ _ _ _ r h => by simp [cohousinglaw33_LedgerOrder.j1] at h, fun _ _ _ _ _ _ _ _ r h => by simp [cohousinglaw33_LedgerOrder.l0] at h⟩
  | k + 1 => by
    obtain ⟨ih0, ih1, ih2⟩ := cohousinglaw33_LedgerOrder.mono_l k
    refine ⟨?_, ?_, ?_⟩
    · intro y0 y1 y2 y3 y4 y5 y6
      unfold cohousinglaw33_LedgerOrder.j0
      repeat' first
      | (with_reducible exact ih0 _ _ _ _ _ _ _)
      | (with_reducible exact ih1 _ _ _ _ _ _ _)
      | (with_reducible exact ih2 _ _ _ _ _ _ _ _)
      | (with_reducible exact cohousinglaw33_usable.mono _ _ _ _)
      | (with_reducible exact cohousingref33_SameNames.mono _ _ _)
      | (with_reducible exact LeO.refl _)
      | (with_reducible exact LeO.none _)
      | (with_reducible refine LeO.ite ?_ ?_)
      | (with_reducible refine LeO.bind ?_ (fun _ => ?_))
      | exact ih0 _ _ _ _ _ _ _
      | exact ih1 _ _ _ _ _ _ _
      | exact ih2 _ _ _ _ _ _ _ _
      | exact cohousinglaw33_usable.mono _ _ _ _
      | exact cohousingref33_SameNames.mono _ _ _
      | exact LeO.none _
      | refine LeO.ite ?_ ?_
      | refine LeO.bind ?_ (fun _ => ?_)
    · intro y0 y1 y2 y3 y4 y5 y6
      unfold cohousinglaw33_LedgerOrder.j1
      repeat' first
      | (with_reducible exact ih0 _ _ _ _ _ _ _)
      | (with_reducible exact ih1 _ _ _ _ _ _ _)
      | (with_reducible exact ih2 _ _ _ _ _ _ _ _)
      | (with_reducible exact cohousinglaw33_usable.mono _ _ _ _)
      | (with_reducible exact cohousingref33_SameNames.mono _ _ _)
      | (with_reducible exact LeO.refl _)
      | (with_reducible exact LeO.none _)
      | (with_reducible refine LeO.ite ?_ ?_)
      | (with_reducible refine LeO.bind ?_ (fun _ => ?_))
      | exact ih0 _ _ _ _ _ _ _
      | exact ih1 _ _ _ _ _ _ _
      | exact ih2 _ _ _ _ _ _ _ _
      | exact cohousinglaw33_usable.mono _ _ _ _
      | exact cohousingref33_SameNames.mono _ _ _
      | exact LeO.none _
      | refine LeO.ite ?_ ?_
      | refine LeO.bind ?_ (fun _ => ?_)
    · intro y0 y1 y2 y3 y4 y5 y6 y7
      unfold cohousinglaw33_LedgerOrder.l0
      repeat' first
      | (with_reducible exact ih0 _ _ _ _ _ _ _)
      | (with_reducible exact ih1 _ _ _ _ _ _ _)
      | (with_reducible exact ih2 _ _ _ _ _ _ _ _)
      | (with_reducible exact cohousinglaw33_usable.mono _ _ _ _)
      | (with_reducible exact cohousingref33_SameNames.mono _ _ _)
      | (with_reducible exact LeO.refl _)
      | (with_reducible exact LeO.none _)
      | (with_reducible refine LeO.ite ?_ ?_)
      | (with_reducible refine LeO.bind ?_ (fun _ => ?_))
      | exact ih0 _ _ _ _ _ _ _
      | exact ih1 _ _ _ _ _ _ _
      | exact ih2 _ _ _ _ _ _ _ _
      | exact cohousinglaw33_usable.mono _ _ _ _
      | exact cohousingref33_SameNames.mono _ _ _
      | exact LeO.none _
      | refine LeO.ite ?_ ?_
      | refine LeO.bind ?_ (fun _ => ?_)
theorem cohousinglaw33_LedgerOrder.mono : ∀ a0 a1 a2 a3 a4 k, LeO (cohousinglaw33_LedgerOrder.f k a0 a1 a2 a3 a4) (cohousinglaw33_LedgerOrder.f (k + 1) a0 a1 a2 a3 a4) := by
  intro a0 a1 a2 a3 a4 k
  obtain ⟨ih0, ih1, ih2⟩ := cohousinglaw33_LedgerOrder.mono_l k
  unfold cohousinglaw33_LedgerOrder.f
  repeat' first
      | (with_reducible exact ih0 _ _ _ _ _ _ _)
      | (with_reducible exact ih1 _ _ _ _ _ _ _)
      | (with_reducible exact ih2 _ _ _ _ _ _ _ _)
      | (with_reducible exact cohousinglaw33_usable.mono _ _ _ _)
      | (with_reducible exact cohousingref33_SameNames.mono _ _ _)
      | (with_reducible exact LeO.refl _)
      | (with_reducible exact LeO.none _)
      | (with_reducible refine LeO.ite ?_ ?_)
      | (with_reducible refine LeO.bind ?_ (fun _ => ?_))
      | exact ih0 _ _ _ _ _ _ _
      | exact ih1 _ _ _ _ _ _ _
      | exact ih2 _ _ _ _ _ _ _ _
      | exact cohousinglaw33_usable.mono _ _ _ _
      | exact cohousingref33_SameNames.mono _ _ _
      | exact LeO.none _
      | refine LeO.ite ?_ ?_
      | refine LeO.bind ?_ (fun _ => ?_)
def cohousinglaw33_LedgerOrder.T6 : Bool × List (List Nat × List Nat) := (true, [([], []), ([], []), ([], []), ([], []), ([3], [3]), ([], []), ([], []), ([6], [6]), ([5, 7], [5, 7]), ([8], [8]), ([], []), ([], []), ([10, 11], [10, 11]), ([12], [12]), ([0, 1, 0, 1, 5, 6, 7, 8, 9, 13], [0, 1]), ([14, 9, 0, 1, 5, 6, 7, 8, 9, 13], [9, 14]), ([2, 4, 0, 1, 2, 3, 4, 5, 6, 7, 8, 9, 10, 11, 12, 13, 14, 15], [2, 4]), ([16, 13, 15, 0, 1, 2, 3, 4, 5, 6, 7, 8, 9, 10, 11, 12, 13, 14, 15], [13, 16])])
def cohousinglaw33_LedgerOrder.B6 : List Nat := [0, 0, 0, 0, 8, 0, 0, 64, 224, 480, 0, 0, 3072, 7168, 16355, 32739, 65535, 131071]
theorem cohousinglaw33_LedgerOrder.tab6 : rtab .any (opsOf Try.f8 6) = cohousinglaw33_LedgerOrder.T6 := by kernel_rfl
theorem cohousinglaw33_LedgerOrder.bits6 : waitsOk cohousinglaw33_LedgerOrder.T6.2 cohousinglaw33_LedgerOrder.B6 = true := by kernel_rfl
def cohousinglaw33_LedgerOrder.T10 : Bool × List (List Nat × List Nat) := (true, [([], []), ([], []), ([], []), ([1, 2], [1, 2]), ([3], [3]), ([4], [4]), ([], []), ([], []), ([6, 7], [6, 7]), ([8], [8]), ([9], [9]), ([], []), ([], []), ([12], [12]), ([11, 13], [11, 13]), ([14], [14]), ([15], [15]), ([0, 5, 10, 16], [0, 5, 10, 16]), ([17], [17]), ([], [])])
def cohousinglaw33_LedgerOrder.B10 : List Nat := [0, 0, 0, 6, 14, 30, 0, 0, 192, 448, 960, 0, 0, 4096, 14336, 30720, 63488, 131071, 262143, 0]
theorem cohousinglaw33_LedgerOrder.tab10 : rtab .any (opsOf Try.f8 10) = cohousinglaw33_LedgerOrder.T10 := by kernel_rfl
theorem cohousinglaw33_LedgerOrder.bits10 : waitsOk cohousinglaw33_LedgerOrder.T10.2 cohousinglaw33_LedgerOrder.B10 = true := by kernel_rfl
set_option maxHeartbeats 8000000 in
set_option maxRecDepth 100000 in
theorem cohousinglaw33_LedgerOrder.calls (k : Nat) (A0 : Option Addr) (c0 : Nat) (l0 : List (S24)) (a1 : Int) (a2 : ByteArray) (a3 : Int) (a4 : Int) (r : Bool) (w : World) (hr0 : Kd.C k24 w A0 l0.length l0) (hc0 : l0.length ≤ c0) (h : cohousinglaw33_LedgerOrder.f k l0 a1 a2 a3 a4 = some r) :
    Calls Try.prog 8 #[.slice A0 l0.length c0, .int .u8 a1, .string a2, .int .i64 a3, .int .i64 a4] w fun e w' => e = .returned (.bool r) ∧ Below w.heap.size w w' := by
  have hu24 := Try.underlying24
  have HR0 := Aside0.mk hr0
  have HC0 := Aside0.mk hc0
  clear hr0 hc0
  have HB := Aside0.mk (Below.refl w.heap.size w)
  have H : ((cohousinglaw33_head.f).bind fun t343 => ((cohousinglaw33_usable.f k l0 a3 a4).bind fun t344 => (if t344 = true then (cohousinglaw33_LedgerOrder.j0 k l0 a1 a2 a3 a4 t343 (decide ((l0.length : Int) < 2))) else (cohousinglaw33_LedgerOrder.j0 k l0 a1 a2 a3 a4 t343 true)))) = some r := h
  clear h
  replace H := Option.bind_eq_some_iff.mp H
  obtain ⟨t343, A60, H⟩ := H
  replace H : ((cohousinglaw33_usable.f k l0 a3 a4).bind fun t344 => (if t344 = true then (cohousinglaw33_LedgerOrder.j0 k l0 a1 a2 a3 a4 t343 (decide ((l0.length : Int) < 2))) else (cohousinglaw33_LedgerOrder.j0 k l0 a1 a2 a3 a4 t343 true))) = some r := H
  have A6 := Aside0.mk A60
  clear A60
  have HC7 := Aside0.mk H
  clear H
  go_enter Try.func8, Try.ntmps8
  go_upto_region 2 with (first | ((with_reducible refine gate_callee (f := 11) rfl ?_); refine goesL_ (some 24) rfl rfl Try.func11 (by kernel_rfl) rfl #[] rfl (by (try simp only [List.map_toArray, List.map_cons, List.map_nil]); first | done | rfl | (simp only [List.length_drop, List.length_take]; rfl)) ?_; (with_reducible refine (cohousinglaw33_head.calls  t343 _ A6.out).mono ?_); rintro e w8 ⟨rfl, hb⟩; refine ⟨_, rfl, ?_⟩; have n0_ := Aside0.mk (below_step (by repeat (first | (with_reducible first | exact HB.out | apply below_alloc | apply pw_below_drewN | apply below_drew1) | exact HB.out)) hb); clear HB; have HB := n0_; clear n0_; (try clear hb); (try clear hb2); (try clear hk); (try clear hi)))
  (try simp only [Act.put, List.setIfInBounds_toArray, List.set_cons_zero, List.set_cons_succ])
  go_cut [34] (fun v34 wc => ∃ (kq : Nat) (x34_6 : Bool), v34 = .bool x34_6 ∧ Aside0 (cohousinglaw33_LedgerOrder.j0 kq l0 a1 a2 a3 a4 t343 x34_6 = some r) ∧ Aside0 (kq ≤ k) ∧ Aside0 (Below w.heap.size w wc))
  case first =>
    have H := HC7.out
    clear HC7
    replace H := Option.bind_eq_some_iff.mp H
    obtain ⟨t344, A90, H⟩ := H
    replace H : (if t344 = true then (cohousinglaw33_LedgerOrder.j0 k l0 a1 a2 a3 a4 t343 (decide ((l0.length : Int) < 2))) else (cohousinglaw33_LedgerOrder.j0 k l0 a1 a2 a3 a4 t343 true)) = some r := H
    have A9 := Aside0.mk A90
    clear A90
    by_cases c10 : t344 = true
    · subst c10
      have H1 : (cohousinglaw33_LedgerOrder.j0 k l0 a1 a2 a3 a4 t343 (decide ((l0.length : Int) < 2))) = some r := by rw [if_pos rfl] at H; exact H
      clear H
      have H := H1
      clear H1
      have H' := Aside0.mk H
      clear H
      go_wp2_with (first | ((with_reducible refine gate_callee (f := 25) rfl ?_); refine goesL_ (some 28) rfl rfl Try.func25 (by kernel_rfl) rfl #[.slice A0 l0.length c0, .int .i64 a3, .int .i64 a4] rfl (by (try simp only [List.map_toArray, List.map_cons, List.map_nil]); first | done | rfl | (simp only [List.length_drop, List.length_take]; rfl)) ?_; (with_reducible refine (cohousinglaw33_usable.calls k _ _ l0 a3 a4 true _ ?side1 ?side2 A9.out).mono ?_); (case side1 => repeat (first | exact (Kd.C_below HR0.out HB.out) | (with_reducible refine Kd.C_alloc ?_ _) | (with_reducible refine Kd.C_drewN ?_ _) | (with_reducible refine Kd.C_drew ?_))); (case side2 => exact HC0.out); rintro e w11 ⟨rfl, hb⟩; refine ⟨_, rfl, ?_⟩; have n0_ := Aside0.mk (below_step (by repeat (first | (with_reducible first | exact HB.out | apply below_alloc | apply pw_below_drewN | apply below_drew1) | exact HB.out)) hb); clear HB; have HB := n0_; clear n0_; (try clear hb); (try clear hb2); (try clear hk); (try clear hi)))
      go_meet
      case rel => exact ⟨_, (decide ((l0.length : Int) < 2)), (by first | rfl | (simp; done) | (simp [*]; done)), H', ⟨by first | omega | exact Nat.le_refl _⟩, ⟨by repeat (first | (with_reducible first | exact HB.out | apply below_alloc | apply pw_below_drewN | apply below_drew1) | exact HB.out)⟩⟩
    · replace c10 := Bool.eq_false_iff.mpr c10
      subst c10
      have H1 : (cohousinglaw33_LedgerOrder.j0 k l0 a1 a2 a3 a4 t343 true) = some r := by rw [if_neg (show ¬ (false = true) by decide)] at H; exact H
      clear H
      have H := H1
      clear H1
      have H' := Aside0.mk H
      clear H
      go_wp2_with (first | ((with_reducible refine gate_callee (f := 25) rfl ?_); refine goesL_ (some 28) rfl rfl Try.func25 (by kernel_rfl) rfl #[.slice A0 l0.length c0, .int .i64 a3, .int .i64 a4] rfl (by (try simp only [List.map_toArray, List.map_cons, List.map_nil]); first | done | rfl | (simp only [List.length_drop, List.length_take]; rfl)) ?_; (with_reducible refine (cohousinglaw33_usable.calls k _ _ l0 a3 a4 false _ ?side1 ?side2 A9.out).mono ?_); (case side1 => repeat (first | exact (Kd.C_below HR0.out HB.out) | (with_reducible refine Kd.C_alloc ?_ _) | (with_reducible refine Kd.C_drewN ?_ _) | (with_reducible refine Kd.C_drew ?_))); (case side2 => exact HC0.out); rintro e w12 ⟨rfl, hb⟩; refine ⟨_, rfl, ?_⟩; have n0_ := Aside0.mk (below_step (by repeat (first | (with_reducible first | exact HB.out | apply below_alloc | apply pw_below_drewN | apply below_drew1) | exact HB.out)) hb); clear HB; have HB := n0_; clear n0_; (try clear hb); (try clear hb2); (try clear hk); (try clear hi)))
      go_meet
      case rel => exact ⟨_, (true), (by first | rfl | (simp; done) | (simp [*]; done)), H', ⟨by first | omega | exact Nat.le_refl _⟩, ⟨by repeat (first | (with_reducible first | exact HB.out | apply below_alloc | apply pw_below_drewN | apply below_drew1) | exact HB.out)⟩⟩
  case rest =>
    clear HC7
    try clear c1
    try clear c2
    try clear p2
    try clear c8
    try clear c10
    try clear c11
    obtain ⟨kq, x34_6, rfl, HA, HJ6, HB⟩ := hcut
    cases kq with
    | zero => exact absurd HA.out (by simp [cohousinglaw33_LedgerOrder.j0])
    | succ kj6 =>
      have H := HA.out
      clear HA
      simp only [cohousinglaw33_LedgerOrder.j0] at H
      by_cases c13 : x34_6 = true
      · subst c13
        have H1 : (some t343) = some r := by rw [if_pos rfl] at H; exact H
        clear H
        have H := H1
        clear H1
        obtain rfl := Option.some.inj H
        go_wp2
        go_ret
        exact ⟨by first | rfl | (simp [errW_none, errW_some] <;> rfl) | (simp [*, errW_none, errW_some] <;> rfl), by repeat (first | (with_reducible first | exact HB.out | apply below_alloc | apply pw_below_drewN | apply below_drew1) | exact HB.out)⟩
      · replace c13 := Bool.eq_false_iff.mpr c13
        subst c13
        have H1 : (if (wrap64 ((l0.length : Int) - 1)) = 0 then (none) else ((some (([] : List (S24)) : List (S24))).bind fun y345 => (if y345.length + l0.length < 2199023255552 then ((some (y345 ++ l0 : List (S24))).bind fun y348 => (if 0 ≤ (wrap64 ((Int.tmod (wrap64 (a1)) (wrap64 ((l0.length : Int) - 1))) + 1)) then (if (wrap64 ((Int.tmod (wrap64 (a1)) (wrap64 ((l0.length : Int) - 1))) + 1)) < (l0.length : Int) then (if 0 ≤ (Int.tmod (wrap64 (a1)) (wrap64 ((l0.length : Int) - 1))) then (if (Int.tmod (wrap64 (a1)) (wrap64 ((l0.length : Int) - 1))) < (l0.length : Int) then (if (Int.tmod (wrap64 (a1)) (wrap64 ((l0.length : Int) - 1))) < (y348.length : Int) then (if (wrap64 ((Int.tmod (wrap64 (a1)) (wrap64 ((l0.length : Int) - 1))) + 1)) < (y348.length : Int) then ((some ((y348.set ((Int.tmod (wrap64 (a1)) (wrap64 ((l0.length : Int) - 1))) : Int).toNat (⟨(rd_T24 l0 (wrap64 ((Int.tmod (wrap64 (a1)) (wrap64 ((l0.length : Int) - 1))) + 1))).f0, (rd_T24 l0 (wrap64 ((Int.tmod (wrap64 (a1)) (wrap64 ((l0.length : Int) - 1))) + 1))).f1, (rd_T24 l0 (wrap64 ((Int.tmod (wrap64 (a1)) (wrap64 ((l0.length : Int) - 1))) + 1))).f2, (rd_T24 l0 (wrap64 ((Int.tmod (wrap64 (a1)) (wrap64 ((l0.length : Int) - 1))) + 1))).f3, (rd_T24 l0 (wrap64 ((Int.tmod (wrap64 (a1)) (wrap64 ((l0.length : Int) - 1))) + 1))).f4, (rd_T24 l0 (wrap64 ((Int.tmod (wrap64 (a1)) (wrap64 ((l0.length : Int) - 1))) + 1))).f5⟩ : S24)).set ((wrap64 ((Int.tmod (wrap64 (a1)) (wrap64 ((l0.length : Int) - 1))) + 1)) : Int).toNat (⟨(rd_T24 l0 (Int.tmod (wrap64 (a1)) (wrap64 ((l0.length : Int) - 1)))).f0, (rd_T24 l0 (Int.tmod (wrap64 (a1)) (wrap64 ((l0.length : Int) - 1)))).f1, (rd_T24 l0 (Int.tmod (wrap64 (a1)) (wrap64 ((l0.length : Int) - 1)))).f2, (rd_T24 l0 (Int.tmod (wrap64 (a1)) (wrap64 ((l0.length : Int) - 1)))).f3, (rd_T24 l0 (Int.tmod (wrap64 (a1)) (wrap64 ((l0.length : Int) - 1)))).f4, (rd_T24 l0 (Int.tmod (wrap64 (a1)) (wrap64 ((l0.length : Int) - 1)))).f5⟩ : S24) : List (S24))).bind fun y354 => ((ledger_Accounts.f l0).bind fun bt355 => ((ledger_Accounts.f y354).bind fun bt359 => (if t343 = true then (if bt355.2 = bt359.2 then ((cohousingref33_SameNames.f kj6 bt355.1 bt359.1).bind fun t363 => (if t363 = true then ((ledger_Valid.f y354).bind fun t364 => (cohousinglaw33_LedgerOrder.j1 kj6 l0 a2 a3 a4 t364 (Int.tmod (wrap64 (a1)) (wrap64 ((l0.length : Int) - 1))) y354)) else (cohousinglaw33_LedgerOrder.j1 kj6 l0 a2 a3 a4 false (Int.tmod (wrap64 (a1)) (wrap64 ((l0.length : Int) - 1))) y354))) else (cohousinglaw33_LedgerOrder.j1 kj6 l0 a2 a3 a4 false (Int.tmod (wrap64 (a1)) (wrap64 ((l0.length : Int) - 1))) y354)) else (cohousinglaw33_LedgerOrder.j1 kj6 l0 a2 a3 a4 false (Int.tmod (wrap64 (a1)) (wrap64 ((l0.length : Int) - 1))) y354))))) else (none)) else (none)) else (none)) else (none)) else (none)) else (none))) else (none)))) = some r := by rw [if_neg (show ¬ (false = true) by decide)] at H; exact H
        clear H
        have H := H1
        clear H1
        by_cases c14 : (wrap64 ((l0.length : Int) - 1)) = 0
        · rw [if_pos c14] at H
          exact absurd H (by simp)
        · rw [if_neg c14] at H
          have c14b0 : ((wrap64 ((l0.length : Int) - 1)) == 0) = false := beq_eq_false_iff_ne.mpr c14
          have c14b1 : ((wrap64 ((l0.length : Int) - 1)) != 0) = true := bne_iff_ne.mpr c14
          obtain ⟨y345, hy345⟩ : ∃ y_ : List (S24), y_ = (([] : List (S24))) := ⟨_, rfl⟩
          replace H : (if y345.length + l0.length < 2199023255552 then ((some (y345 ++ l0 : List (S24))).bind fun y348 => (if 0 ≤ (wrap64 ((Int.tmod (wrap64 (a1)) (wrap64 ((l0.length : Int) - 1))) + 1)) then (if (wrap64 ((Int.tmod (wrap64 (a1)) (wrap64 ((l0.length : Int) - 1))) + 1)) < (l0.length : Int) then (if 0 ≤ (Int.tmod (wrap64 (a1)) (wrap64 ((l0.length : Int) - 1))) then (if (Int.tmod (wrap64 (a1)) (wrap64 ((l0.length : Int) - 1))) < (l0.length : Int) then (if (Int.tmod (wrap64 (a1)) (wrap64 ((l0.length : Int) - 1))) < (y348.length : Int) then (if (wrap64 ((Int.tmod (wrap64 (a1)) (wrap64 ((l0.length : Int) - 1))) + 1)) < (y348.length : Int) then ((some ((y348.set ((Int.tmod (wrap64 (a1)) (wrap64 ((l0.length : Int) - 1))) : Int).toNat (⟨(rd_T24 l0 (wrap64 ((Int.tmod (wrap64 (a1)) (wrap64 ((l0.length : Int) - 1))) + 1))).f0, (rd_T24 l0 (wrap64 ((Int.tmod (wrap64 (a1)) (wrap64 ((l0.length : Int) - 1))) + 1))).f1, (rd_T24 l0 (wrap64 ((Int.tmod (wrap64 (a1)) (wrap64 ((l0.length : Int) - 1))) + 1))).f2, (rd_T24 l0 (wrap64 ((Int.tmod (wrap64 (a1)) (wrap64 ((l0.length : Int) - 1))) + 1))).f3, (rd_T24 l0 (wrap64 ((Int.tmod (wrap64 (a1)) (wrap64 ((l0.length : Int) - 1))) + 1))).f4, (rd_T24 l0 (wrap64 ((Int.tmod (wrap64 (a1)) (wrap64 ((l0.length : Int) - 1))) + 1))).f5⟩ : S24)).set ((wrap64 ((Int.tmod (wrap64 (a1)) (wrap64 ((l0.length : Int) - 1))) + 1)) : Int).toNat (⟨(rd_T24 l0 (Int.tmod (wrap64 (a1)) (wrap64 ((l0.length : Int) - 1)))).f0, (rd_T24 l0 (Int.tmod (wrap64 (a1)) (wrap64 ((l0.length : Int) - 1)))).f1, (rd_T24 l0 (Int.tmod (wrap64 (a1)) (wrap64 ((l0.length : Int) - 1)))).f2, (rd_T24 l0 (Int.tmod (wrap64 (a1)) (wrap64 ((l0.length : Int) - 1)))).f3, (rd_T24 l0 (Int.tmod (wrap64 (a1)) (wrap64 ((l0.length : Int) - 1)))).f4, (rd_T24 l0 (Int.tmod (wrap64 (a1)) (wrap64 ((l0.length : Int) - 1)))).f5⟩ : S24) : List (S24))).bind fun y354 => ((ledger_Accounts.f l0).bind fun bt355 => ((ledger_Accounts.f y354).bind fun bt359 => (if t343 = true then (if bt355.2 = bt359.2 then ((cohousingref33_SameNames.f kj6 bt355.1 bt359.1).bind fun t363 => (if t363 = true then ((ledger_Valid.f y354).bind fun t364 => (cohousinglaw33_LedgerOrder.j1 kj6 l0 a2 a3 a4 t364 (Int.tmod (wrap64 (a1)) (wrap64 ((l0.length : Int) - 1))) y354)) else (cohousinglaw33_LedgerOrder.j1 kj6 l0 a2 a3 a4 false (Int.tmod (wrap64 (a1)) (wrap64 ((l0.length : Int) - 1))) y354))) else (cohousinglaw33_LedgerOrder.j1 kj6 l0 a2 a3 a4 false (Int.tmod (wrap64 (a1)) (wrap64 ((l0.length : Int) - 1))) y354)) else (cohousinglaw33_LedgerOrder.j1 kj6 l0 a2 a3 a4 false (Int.tmod (wrap64 (a1)) (wrap64 ((l0.length : Int) - 1))) y354))))) else (none)) else (none)) else (none)) else (none)) else (none)) else (none))) else (none)) = some r := by first | (rw [hy345]; with_reducible exact H) | (have H2_ := (Option.bind_some _ _).symm.trans H; rw [hy345]; with_reducible exact H2_) | (have H2_ := (Option.bind_some _ _).symm.trans H; with_reducible exact H2_) | with_reducible exact H | (rw [hy345]; exact H) | exact H
          have Ny345 := Aside0.mk hy345
          clear hy345
          by_cases c15 : y345.length + l0.length < 2199023255552
          · rw [if_pos c15] at H
            have LMc15 := Aside0.mk c15
            clear c15
            obtain ⟨y348, hy348⟩ : ∃ y_ : List (S24), y_ = (y345 ++ l0) := ⟨_, rfl⟩
            replace H : (if 0 ≤ (wrap64 ((Int.tmod (wrap64 (a1)) (wrap64 ((l0.length : Int) - 1))) + 1)) then (if (wrap64 ((Int.tmod (wrap64 (a1)) (wrap64 ((l0.length : Int) - 1))) + 1)) < (l0.length : Int) then (if 0 ≤ (Int.tmod (wrap64 (a1)) (wrap64 ((l0.length : Int) - 1))) then (if (Int.tmod (wrap64 (a1)) (wrap64 ((l0.length : Int) - 1))) < (l0.length : Int) then (if (Int.tmod (wrap64 (a1)) (wrap64 ((l0.length : Int) - 1))) < (y348.length : Int) then (if (wrap64 ((Int.tmod (wrap64 (a1)) (wrap64 ((l0.length : Int) - 1))) + 1)) < (y348.length : Int) then ((some ((y348.set ((Int.tmod (wrap64 (a1)) (wrap64 ((l0.length : Int) - 1))) : Int).toNat (⟨(rd_T24 l0 (wrap64 ((Int.tmod (wrap64 (a1)) (wrap64 ((l0.length : Int) - 1))) + 1))).f0, (rd_T24 l0 (wrap64 ((Int.tmod (wrap64 (a1)) (wrap64 ((l0.length : Int) - 1))) + 1))).f1, (rd_T24 l0 (wrap64 ((Int.tmod (wrap64 (a1)) (wrap64 ((l0.length : Int) - 1))) + 1))).f2, (rd_T24 l0 (wrap64 ((Int.tmod (wrap64 (a1)) (wrap64 ((l0.length : Int) - 1))) + 1))).f3, (rd_T24 l0 (wrap64 ((Int.tmod (wrap64 (a1)) (wrap64 ((l0.length : Int) - 1))) + 1))).f4, (rd_T24 l0 (wrap64 ((Int.tmod (wrap64 (a1)) (wrap64 ((l0.length : Int) - 1))) + 1))).f5⟩ : S24)).set ((wrap64 ((Int.tmod (wrap64 (a1)) (wrap64 ((l0.length : Int) - 1))) + 1)) : Int).toNat (⟨(rd_T24 l0 (Int.tmod (wrap64 (a1)) (wrap64 ((l0.length : Int) - 1)))).f0, (rd_T24 l0 (Int.tmod (wrap64 (a1)) (wrap64 ((l0.length : Int) - 1)))).f1, (rd_T24 l0 (Int.tmod (wrap64 (a1)) (wrap64 ((l0.length : Int) - 1)))).f2, (rd_T24 l0 (Int.tmod (wrap64 (a1)) (wrap64 ((l0.length : Int) - 1)))).f3, (rd_T24 l0 (Int.tmod (wrap64 (a1)) (wrap64 ((l0.length : Int) - 1)))).f4, (rd_T24 l0 (Int.tmod (wrap64 (a1)) (wrap64 ((l0.length : Int) - 1)))).f5⟩ : S24) : List (S24))).bind fun y354 => ((ledger_Accounts.f l0).bind fun bt355 => ((ledger_Accounts.f y354).bind fun bt359 => (if t343 = true then (if bt355.2 = bt359.2 then ((cohousingref33_SameNames.f kj6 bt355.1 bt359.1).bind fun t363 => (if t363 = true then ((ledger_Valid.f y354).bind fun t364 => (cohousinglaw33_LedgerOrder.j1 kj6 l0 a2 a3 a4 t364 (Int.tmod (wrap64 (a1)) (wrap64 ((l0.length : Int) - 1))) y354)) else (cohousinglaw33_LedgerOrder.j1 kj6 l0 a2 a3 a4 false (Int.tmod (wrap64 (a1)) (wrap64 ((l0.length : Int) - 1))) y354))) else (cohousinglaw33_LedgerOrder.j1 kj6 l0 a2 a3 a4 false (Int.tmod (wrap64 (a1)) (wrap64 ((l0.length : Int) - 1))) y354)) else (cohousinglaw33_LedgerOrder.j1 kj6 l0 a2 a3 a4 false (Int.tmod (wrap64 (a1)) (wrap64 ((l0.length : Int) - 1))) y354))))) else (none)) else (none)) else (none)) else (none)) else (none)) else (none)) = some r := by first | (rw [hy348]; with_reducible exact H) | (have H2_ := (Option.bind_some _ _).symm.trans H; rw [hy348]; with_reducible exact H2_) | (have H2_ := (Option.bind_some _ _).symm.trans H; with_reducible exact H2_) | with_reducible exact H | (rw [hy348]; exact H) | exact H
            have Ny348 := Aside0.mk hy348
            clear hy348
            obtain ⟨ji16, hji16⟩ : ∃ j_ : Int, (wrap64 ((Int.tmod (wrap64 (a1)) (wrap64 ((l0.length : Int) - 1))) + 1)) = j_ := ⟨_, rfl⟩
            replace H : (if 0 ≤ (ji16) then (if (ji16) < (l0.length : Int) then (if 0 ≤ (Int.tmod (wrap64 (a1)) (wrap64 ((l0.length : Int) - 1))) then (if (Int.tmod (wrap64 (a1)) (wrap64 ((l0.length : Int) - 1))) < (l0.length : Int) then (if (Int.tmod (wrap64 (a1)) (wrap64 ((l0.length : Int) - 1))) < (y348.length : Int) then (if (ji16) < (y348.length : Int) then ((some ((y348.set ((Int.tmod (wrap64 (a1)) (wrap64 ((l0.length : Int) - 1))) : Int).toNat (⟨(rd_T24 l0 (ji16)).f0, (rd_T24 l0 (ji16)).f1, (rd_T24 l0 (ji16)).f2, (rd_T24 l0 (ji16)).f3, (rd_T24 l0 (ji16)).f4, (rd_T24 l0 (ji16)).f5⟩ : S24)).set ((ji16) : Int).toNat (⟨(rd_T24 l0 (Int.tmod (wrap64 (a1)) (wrap64 ((l0.length : Int) - 1)))).f0, (rd_T24 l0 (Int.tmod (wrap64 (a1)) (wrap64 ((l0.length : Int) - 1)))).f1, (rd_T24 l0 (Int.tmod (wrap64 (a1)) (wrap64 ((l0.length : Int) - 1)))).f2, (rd_T24 l0 (Int.tmod (wrap64 (a1)) (wrap64 ((l0.length : Int) - 1)))).f3, (rd_T24 l0 (Int.tmod (wrap64 (a1)) (wrap64 ((l0.length : Int) - 1)))).f4, (rd_T24 l0 (Int.tmod (wrap64 (a1)) (wrap64 ((l0.length : Int) - 1)))).f5⟩ : S24) : List (S24))).bind fun y354 => ((ledger_Accounts.f l0).bind fun bt355 => ((ledger_Accounts.f y354).bind fun bt359 => (if t343 = true then (if bt355.2 = bt359.2 then ((cohousingref33_SameNames.f kj6 bt355.1 bt359.1).bind fun t363 => (if t363 = true then ((ledger_Valid.f y354).bind fun t364 => (cohousinglaw33_LedgerOrder.j1 kj6 l0 a2 a3 a4 t364 (Int.tmod (wrap64 (a1)) (wrap64 ((l0.length : Int) - 1))) y354)) else (cohousinglaw33_LedgerOrder.j1 kj6 l0 a2 a3 a4 false (Int.tmod (wrap64 (a1)) (wrap64 ((l0.length : Int) - 1))) y354))) else (cohousinglaw33_LedgerOrder.j1 kj6 l0 a2 a3 a4 false (Int.tmod (wrap64 (a1)) (wrap64 ((l0.length : Int) - 1))) y354)) else (cohousinglaw33_LedgerOrder.j1 kj6 l0 a2 a3 a4 false (Int.tmod (wrap64 (a1)) (wrap64 ((l0.length : Int) - 1))) y354))))) else (none)) else (none)) else (none)) else (none)) else (none)) else (none)) = some r := by first | (rw [hji16] at H; exact H) | (simp only [hji16] at H ⊢; exact H)
            have hji16w : (IntKind.i64.wrap ((Int.tmod (wrap64 (a1)) (wrap64 ((l0.length : Int) - 1))) + 1)) = ji16 := (i64_w _).trans hji16
            by_cases c17 : 0 ≤ (ji16)
            · rw [if_pos c17] at H
              have c17b0 : decide (0 ≤ (ji16)) = true := decide_eq_true c17
              clear c17
              by_cases c18 : (ji16) < (l0.length : Int)
              · rw [if_pos c18] at H
                have c18b0 : decide ((ji16) < (l0.length : Int)) = true := decide_eq_true c18
                clear c18
                obtain ⟨ji19, hji19⟩ : ∃ j_ : Int, (Int.tmod (wrap64 (a1)) (wrap64 ((l0.length : Int) - 1))) = j_ := ⟨_, rfl⟩
                rw [hji19] at hji16 hji16w
                replace H : (if 0 ≤ (ji19) then (if (ji19) < (l0.length : Int) then (if (ji19) < (y348.length : Int) then (if (ji16) < (y348.length : Int) then ((some ((y348.set ((ji19) : Int).toNat (⟨(rd_T24 l0 (ji16)).f0, (rd_T24 l0 (ji16)).f1, (rd_T24 l0 (ji16)).f2, (rd_T24 l0 (ji16)).f3, (rd_T24 l0 (ji16)).f4, (rd_T24 l0 (ji16)).f5⟩ : S24)).set ((ji16) : Int).toNat (⟨(rd_T24 l0 (ji19)).f0, (rd_T24 l0 (ji19)).f1, (rd_T24 l0 (ji19)).f2, (rd_T24 l0 (ji19)).f3, (rd_T24 l0 (ji19)).f4, (rd_T24 l0 (ji19)).f5⟩ : S24) : List (S24))).bind fun y354 => ((ledger_Accounts.f l0).bind fun bt355 => ((ledger_Accounts.f y354).bind fun bt359 => (if t343 = true then (if bt355.2 = bt359.2 then ((cohousingref33_SameNames.f kj6 bt355.1 bt359.1).bind fun t363 => (if t363 = true then ((ledger_Valid.f y354).bind fun t364 => (cohousinglaw33_LedgerOrder.j1 kj6 l0 a2 a3 a4 t364 ji19 y354)) else (cohousinglaw33_LedgerOrder.j1 kj6 l0 a2 a3 a4 false ji19 y354))) else (cohousinglaw33_LedgerOrder.j1 kj6 l0 a2 a3 a4 false ji19 y354)) else (cohousinglaw33_LedgerOrder.j1 kj6 l0 a2 a3 a4 false ji19 y354))))) else (none)) else (none)) else (none)) else (none)) = some r := by first | (rw [hji19] at H; exact H) | (simp only [hji19] at H ⊢; exact H)
                by_cases c20 : 0 ≤ (ji19)
                · rw [if_pos c20] at H
                  have c20b0 : decide (0 ≤ (ji19)) = true := decide_eq_true c20
                  clear c20
                  by_cases c21 : (ji19) < (l0.length : Int)
                  · rw [if_pos c21] at H
                    have c21b0 : decide ((ji19) < (l0.length : Int)) = true := decide_eq_true c21
                    clear c21
                    by_cases c22 : (ji19) < (y348.length : Int)
                    · rw [if_pos c22] at H
                      have c22b0 : decide ((ji19) < (y348.length : Int)) = true := decide_eq_true c22
                      clear c22
                      obtain ⟨y353, hy353⟩ : ∃ y_ : List (S24), y_ = (y348.set ((ji19) : Int).toNat (⟨(rd_T24 l0 (ji16)).f0, (rd_T24 l0 (ji16)).f1, (rd_T24 l0 (ji16)).f2, (rd_T24 l0 (ji16)).f3, (rd_T24 l0 (ji16)).f4, (rd_T24 l0 (ji16)).f5⟩ : S24)) := ⟨_, rfl⟩
                      replace H : (if (ji16) < (y348.length : Int) then ((some (y353.set ((ji16) : Int).toNat (⟨(rd_T24 l0 (ji19)).f0, (rd_T24 l0 (ji19)).f1, (rd_T24 l0 (ji19)).f2, (rd_T24 l0 (ji19)).f3, (rd_T24 l0 (ji19)).f4, (rd_T24 l0 (ji19)).f5⟩ : S24) : List (S24))).bind fun y354 => ((ledger_Accounts.f l0).bind fun bt355 => ((ledger_Accounts.f y354).bind fun bt359 => (if t343 = true then (if bt355.2 = bt359.2 then ((cohousingref33_SameNames.f kj6 bt355.1 bt359.1).bind fun t363 => (if t363 = true then ((ledger_Valid.f y354).bind fun t364 => (cohousinglaw33_LedgerOrder.j1 kj6 l0 a2 a3 a4 t364 ji19 y354)) else (cohousinglaw33_LedgerOrder.j1 kj6 l0 a2 a3 a4 false ji19 y354))) else (cohousinglaw33_LedgerOrder.j1 kj6 l0 a2 a3 a4 false ji19 y354)) else (cohousinglaw33_LedgerOrder.j1 kj6 l0 a2 a3 a4 false ji19 y354))))) else (none)) = some r := by first | (rw [hy353]; with_reducible exact H) | (have H2_ := (Option.bind_some _ _).symm.trans H; rw [hy353]; with_reducible exact H2_) | (have H2_ := (Option.bind_some _ _).symm.trans H; with_reducible exact H2_) | with_reducible exact H | (rw [hy353]; exact H) | exact H
                      have Ny353 := Aside0.mk hy353
                      clear hy353
                      by_cases c24 : (ji16) < (y348.length : Int)
                      · rw [if_pos c24] at H
                        have c24b0 : decide ((ji16) < (y348.length : Int)) = true := decide_eq_true c24
                        clear c24
                        obtain ⟨y354, hy354⟩ : ∃ y_ : List (S24), y_ = (y353.set ((ji16) : Int).toNat (⟨(rd_T24 l0 (ji19)).f0, (rd_T24 l0 (ji19)).f1, (rd_T24 l0 (ji19)).f2, (rd_T24 l0 (ji19)).f3, (rd_T24 l0 (ji19)).f4, (rd_T24 l0 (ji19)).f5⟩ : S24)) := ⟨_, rfl⟩
                        replace H : ((ledger_Accounts.f l0).bind fun bt355 => ((ledger_Accounts.f y354).bind fun bt359 => (if t343 = true then (if bt355.2 = bt359.2 then ((cohousingref33_SameNames.f kj6 bt355.1 bt359.1).bind fun t363 => (if t363 = true then ((ledger_Valid.f y354).bind fun t364 => (cohousinglaw33_LedgerOrder.j1 kj6 l0 a2 a3 a4 t364 ji19 y354)) else (cohousinglaw33_LedgerOrder.j1 kj6 l0 a2 a3 a4 false ji19 y354))) else (cohousinglaw33_LedgerOrder.j1 kj6 l0 a2 a3 a4 false ji19 y354)) else (cohousinglaw33_LedgerOrder.j1 kj6 l0 a2 a3 a4 false ji19 y354)))) = some r := by first | (rw [hy354]; with_reducible exact H) | (have H2_ := (Option.bind_some _ _).symm.trans H; rw [hy354]; with_reducible exact H2_) | (have H2_ := (Option.bind_some _ _).symm.trans H; with_reducible exact H2_) | with_reducible exact H | (rw [hy354]; exact H) | exact H
                        have Ny354 := Aside0.mk hy354
                        clear hy354
                        replace H := Option.bind_eq_some_iff.mp H
                        obtain ⟨⟨t355, t356⟩, A260, H⟩ := H
                        replace H : ((ledger_Accounts.f y354).bind fun bt359 => (if t343 = true then (if t356 = bt359.2 then ((cohousingref33_SameNames.f kj6 t355 bt359.1).bind fun t363 => (if t363 = true then ((ledger_Valid.f y354).bind fun t364 => (cohousinglaw33_LedgerOrder.j1 kj6 l0 a2 a3 a4 t364 ji19 y354)) else (cohousinglaw33_LedgerOrder.j1 kj6 l0 a2 a3 a4 false ji19 y354))) else (cohousinglaw33_LedgerOrder.j1 kj6 l0 a2 a3 a4 false ji19 y354)) else (cohousinglaw33_LedgerOrder.j1 kj6 l0 a2 a3 a4 false ji19 y354))) = some r := H
                        have A26 := Aside0.mk A260
                        clear A260
                        replace H := Option.bind_eq_some_iff.mp H
                        obtain ⟨⟨t359, t360⟩, A270, H⟩ := H
                        replace H : (if t343 = true then (if t356 = t360 then ((cohousingref33_SameNames.f kj6 t355 t359).bind fun t363 => (if t363 = true then ((ledger_Valid.f y354).bind fun t364 => (cohousinglaw33_LedgerOrder.j1 kj6 l0 a2 a3 a4 t364 ji19 y354)) else (cohousinglaw33_LedgerOrder.j1 kj6 l0 a2 a3 a4 false ji19 y354))) else (cohousinglaw33_LedgerOrder.j1 kj6 l0 a2 a3 a4 false ji19 y354)) else (cohousinglaw33_LedgerOrder.j1 kj6 l0 a2 a3 a4 false ji19 y354)) = some r := H
                        have A27 := Aside0.mk A270
                        clear A270
                        have HC28 := Aside0.mk H
                        clear H
                        try go_wp2_with (first | ((with_reducible refine gate_dst (N := 42) rfl ?_); (try (refine gate_guard (by rfl) ?_; dsimp only)); refine Kd.R_lit k24 _ 24 ?hg (N := 42) ?hd (xs := ([] : List (S24))) (inner := []) (ok := fun _ => True) (okp := fun _ => True) ?hr ?hp (fun _ hk => hk) trivial (Below.refl _ _) (Nat.le_refl _) (by simp) ?_; (case hd => rfl); (case hg => rfl); (case hr => first | (go_simp; done) | (go_simp; rfl)); (case hp => exact (Reps.none _ _)); intro v346 w29 ho30 hb hg_ hnew_; clear hg_ hnew_; (first | rw [← Ny345.out] at ho30 | (simp only [Int.reduceToNat] at ho30; rw [← Ny345.out] at ho30)); have n0_ := Aside0.mk (Kd.R_lower ho30 (below_size (by repeat (first | (with_reducible first | exact HB.out | apply below_alloc | apply pw_below_drewN | apply below_drew1) | exact HB.out)))); have n1_ := Aside0.mk (below_step (by repeat (first | (with_reducible first | exact HB.out | apply below_alloc | apply pw_below_drewN | apply below_drew1) | exact HB.out)) hb); clear HB; have HO347 := n0_; have HB := n1_; clear n0_ n1_; clear hb ho30) | ((with_reducible refine gate_builtin (b := .append) (xs := #[.tmp 42, .tmp 43]) rfl ?_); (try (refine gate_guard (by rfl) ?_; dsimp only)); at_builtin; refine Kd.R_append_rows k24 (w0 := w) w.heap.size rfl (.tmp 42) (.tmp 43) 22 24 (.agg #[(.int .i64 0), (.int .i64 0), (.int .i64 0), (.int .i64 0), (.string ⟨#[]⟩), (.string ⟨#[]⟩)]) 64 rfl Try.underlying22 info24 rfl (by decide) (by omega) v346 y345 l0 _ _ _ (fun _ => True) (fun _ => False) rfl rfl ?aO ?aR (fun _ _ h => h) (fun _ h => h.elim) ?aF ?aB ?aS ?aL ?_; (case aR => repeat (first | exact (Kd.C_below HR0.out HB.out) | (with_reducible refine Kd.C_alloc ?_ _) | (with_reducible refine Kd.C_drewN ?_ _) | (with_reducible refine Kd.C_drew ?_))); (case aB => exact (by repeat (first | (with_reducible first | exact HB.out | apply below_alloc | apply pw_below_drewN | apply below_drew1) | exact HB.out))); (case aF => exact (fun _ _ => trivial)); (case aO => exact (by (with_reducible repeat (first | apply Kd.R_alloc | apply Kd.R_drewN | apply Kd.R_drew)); exact HO347.out)); (case aS => exact (below_size (by repeat (first | (with_reducible first | exact HB.out | apply below_alloc | apply pw_below_drewN | apply below_drew1) | exact HB.out)))); (case aL => have := LMc15.out; omega); intro v349 w31 ho hb hg hat; rw [← Ny348.out] at ho; have n0_ := Aside0.mk (hb); have n1_ := Aside0.mk (ho); clear HB; clear HO347; have HB := n0_; have HO350 := n1_; clear n0_ n1_; clear ho hb hg hat))
                        have n0_ := Aside0.mk (Kd.R_drew HO350.out)
                        have n1_ := Aside0.mk (below_drew1 HB.out)
                        clear HO350
                        clear HB
                        have HO350 := n0_
                        have HB := n1_
                        clear n0_ n1_
                        have p351 : 0 ≤ ((ji16) : Int) := of_decide_eq_true (by first | (with_reducible assumption) | assumption)
                        have q351 : (ji16) < (l0.length : Int) := of_decide_eq_true (by first | (with_reducible assumption) | assumption)
                        obtain ⟨ad351, e351, hx351_0, hx351_1, hx351_2, hx351_3, hx351_4, hx351_5⟩ := at_T24 HR0.out (ji16) p351 q351
                        have hw351_5 := hx351_5
                        have hw351_4 := hx351_4
                        have hw351_3 := hx351_3
                        have hw351_2 := hx351_2
                        have hw351_1 := hx351_1
                        have hw351_0 := hx351_0
                        cases e351
                        replace hx351_0 := (HB.out.cell (World.block_lt_of_cell? w _ hx351_0)).trans hx351_0
                        replace hx351_1 := (HB.out.cell (World.block_lt_of_cell? w _ hx351_1)).trans hx351_1
                        replace hx351_2 := (HB.out.cell (World.block_lt_of_cell? w _ hx351_2)).trans hx351_2
                        replace hx351_3 := (HB.out.cell (World.block_lt_of_cell? w _ hx351_3)).trans hx351_3
                        replace hx351_4 := (HB.out.cell (World.block_lt_of_cell? w _ hx351_4)).trans hx351_4
                        replace hx351_5 := (HB.out.cell (World.block_lt_of_cell? w _ hx351_5)).trans hx351_5
                        replace p351 := eq_true p351
                        replace q351 := eq_true q351
                        have p352 : 0 ≤ ((ji19) : Int) := of_decide_eq_true (by first | (with_reducible assumption) | assumption)
                        have q352 : (ji19) < (l0.length : Int) := of_decide_eq_true (by first | (with_reducible assumption) | assumption)
                        obtain ⟨ad352, e352, hx352_0, hx352_1, hx352_2, hx352_3, hx352_4, hx352_5⟩ := at_T24 HR0.out (ji19) p352 q352
                        have hw352_5 := hx352_5
                        have hw352_4 := hx352_4
                        have hw352_3 := hx352_3
                        have hw352_2 := hx352_2
                        have hw352_1 := hx352_1
                        have hw352_0 := hx352_0
                        obtain rfl : ad351 = ad352 := (by injection e352)
                        replace hx352_0 := (HB.out.cell (World.block_lt_of_cell? w _ hx352_0)).trans hx352_0
                        replace hx352_1 := (HB.out.cell (World.block_lt_of_cell? w _ hx352_1)).trans hx352_1
                        replace hx352_2 := (HB.out.cell (World.block_lt_of_cell? w _ hx352_2)).trans hx352_2
                        replace hx352_3 := (HB.out.cell (World.block_lt_of_cell? w _ hx352_3)).trans hx352_3
                        replace hx352_4 := (HB.out.cell (World.block_lt_of_cell? w _ hx352_4)).trans hx352_4
                        replace hx352_5 := (HB.out.cell (World.block_lt_of_cell? w _ hx352_5)).trans hx352_5
                        replace p352 := eq_true p352
                        replace q352 := eq_true q352
                        have p23 : 0 ≤ ((ji19) : Int) := of_decide_eq_true (by first | (with_reducible assumption) | assumption)
                        have q23 : ((ji19) : Int) < ((y348.length : Int) : Int) := of_decide_eq_true (by first | (with_reducible assumption) | assumption)
                        obtain ⟨go23, co23, eo23, gb23, gl23, cl23, HG23⟩ := Kd.R_form HO350.out (by omega)
                        (first | cases eo23 | (injection eo23 with ea_ en_ ec_; (first | subst ea_ | (injection ea_ with ea_; subst ea_)); subst ec_; clear en_))
                        have GB23 := Aside0.mk gb23
                        have GG23 := Aside0.mk HG23
                        clear gb23 gl23 HG23
                        obtain ⟨ce23, hcl23, hM23, hcc23, hfr23⟩ := Kd.R_elem HO350.out z24 ((ji19) : Int) p23 q23
                        obtain rfl := k24_openM hM23
                        have hx23_0 : World.cell? _ ⟨go23, ((ji19) : Int).toNat * 6, none⟩ = some (.int .i64 ((rd_T24 y348 (ji19)).f0)) := hcc23 0 _ rfl
                        have hx23_1 : World.cell? _ ⟨go23, ((ji19) : Int).toNat * 6 + 1, none⟩ = some (.int .i64 ((rd_T24 y348 (ji19)).f1)) := hcc23 1 _ rfl
                        have hx23_2 : World.cell? _ ⟨go23, ((ji19) : Int).toNat * 6 + 2, none⟩ = some (.int .i64 ((rd_T24 y348 (ji19)).f2)) := hcc23 2 _ rfl
                        have hx23_3 : World.cell? _ ⟨go23, ((ji19) : Int).toNat * 6 + 3, none⟩ = some (.int .i64 ((rd_T24 y348 (ji19)).f3)) := hcc23 3 _ rfl
                        have hx23_4 : World.cell? _ ⟨go23, ((ji19) : Int).toNat * 6 + 4, none⟩ = some (.string ((rd_T24 y348 (ji19)).f4)) := hcc23 4 _ rfl
                        have hx23_5 : World.cell? _ ⟨go23, ((ji19) : Int).toNat * 6 + 5, none⟩ = some (.string ((rd_T24 y348 (ji19)).f5)) := hcc23 5 _ rfl
                        have hf23_0 : World.frozen? _ ⟨go23, ((ji19) : Int).toNat * 6, none⟩ = false := hfr23 0
                        have hf23_1 : World.frozen? _ ⟨go23, ((ji19) : Int).toNat * 6 + 1, none⟩ = false := hfr23 1
                        have hf23_2 : World.frozen? _ ⟨go23, ((ji19) : Int).toNat * 6 + 2, none⟩ = false := hfr23 2
                        have hf23_3 : World.frozen? _ ⟨go23, ((ji19) : Int).toNat * 6 + 3, none⟩ = false := hfr23 3
                        have hf23_4 : World.frozen? _ ⟨go23, ((ji19) : Int).toNat * 6 + 4, none⟩ = false := hfr23 4
                        have hf23_5 : World.frozen? _ ⟨go23, ((ji19) : Int).toNat * 6 + 5, none⟩ = false := hfr23 5
                        clear hcl23 hcc23 hfr23 hM23
                        replace p23 := eq_true p23
                        replace q23 := eq_true q23
                        obtain ⟨ce33, hcl33, hM33, hcc33, hfr33⟩ := Kd.R_elem HO350.out z24 ((ji19) : Int) (of_decide_eq_true (by first | (with_reducible assumption) | assumption)) (by have h_ : ((ji19) : Int) < ((y348.length : Int) : Int) := of_decide_eq_true (by first | (with_reducible assumption) | assumption); first | exact h_ | (have e_ := (Kd.R_reads' HO350.out).1; omega) | simpa using h_)
                        obtain rfl := k24_openM hM33
                        have HP33 := (Kd.R_seg HO350.out ((ji19) : Int) (of_decide_eq_true (by first | (with_reducible assumption) | assumption)) (by have h_ : ((ji19) : Int) < ((y348.length : Int) : Int) := of_decide_eq_true (by first | (with_reducible assumption) | assumption); first | exact h_ | (have e_ := (Kd.R_reads' HO350.out).1; omega) | simpa using h_) (seg := [.int .i64 ((rd_T24 l0 (ji16)).f0), .int .i64 ((rd_T24 l0 (ji16)).f1), .int .i64 ((rd_T24 l0 (ji16)).f2), .int .i64 ((rd_T24 l0 (ji16)).f3), .string ((rd_T24 l0 (ji16)).f4), .string ((rd_T24 l0 (ji16)).f5)]) (j := 0) hcl33 hcc33 (show 6 ≤ 6 from by decide) (x' := (⟨(rd_T24 l0 (ji16)).f0, (rd_T24 l0 (ji16)).f1, (rd_T24 l0 (ji16)).f2, (rd_T24 l0 (ji16)).f3, (rd_T24 l0 (ji16)).f4, (rd_T24 l0 (ji16)).f5⟩ : S24)) (k24_mkM _ _ _ (⟨(rd_T24 l0 (ji16)).f0, (rd_T24 l0 (ji16)).f1, (rd_T24 l0 (ji16)).f2, (rd_T24 l0 (ji16)).f3, (rd_T24 l0 (ji16)).f4, (rd_T24 l0 (ji16)).f5⟩ : S24) ) (fun _ hk => hk)).1
                        rw [← Ny353.out] at HP33
                        have HQ33 := Aside0.mk HP33
                        clear hcl33 hcc33 hfr33 hM33 HP33
                        have p25 : 0 ≤ ((ji16) : Int) := of_decide_eq_true (by first | (with_reducible assumption) | assumption)
                        have q25 : ((ji16) : Int) < ((y348.length : Int) : Int) := of_decide_eq_true (by first | (with_reducible assumption) | assumption)
                        obtain ⟨ce25, hcl25, hM25, hcc25, hfr25⟩ := Kd.R_elem HQ33.out z24 ((ji16) : Int) p25 q25
                        obtain rfl := k24_openM hM25
                        have hx25_0 : World.cell? _ ⟨go23, ((ji16) : Int).toNat * 6, none⟩ = some (.int .i64 ((rd_T24 y353 (ji16)).f0)) := hcc25 0 _ rfl
                        have hx25_1 : World.cell? _ ⟨go23, ((ji16) : Int).toNat * 6 + 1, none⟩ = some (.int .i64 ((rd_T24 y353 (ji16)).f1)) := hcc25 1 _ rfl
                        have hx25_2 : World.cell? _ ⟨go23, ((ji16) : Int).toNat * 6 + 2, none⟩ = some (.int .i64 ((rd_T24 y353 (ji16)).f2)) := hcc25 2 _ rfl
                        have hx25_3 : World.cell? _ ⟨go23, ((ji16) : Int).toNat * 6 + 3, none⟩ = some (.int .i64 ((rd_T24 y353 (ji16)).f3)) := hcc25 3 _ rfl
                        have hx25_4 : World.cell? _ ⟨go23, ((ji16) : Int).toNat * 6 + 4, none⟩ = some (.string ((rd_T24 y353 (ji16)).f4)) := hcc25 4 _ rfl
                        have hx25_5 : World.cell? _ ⟨go23, ((ji16) : Int).toNat * 6 + 5, none⟩ = some (.string ((rd_T24 y353 (ji16)).f5)) := hcc25 5 _ rfl
                        have hf25_0 : World.frozen? _ ⟨go23, ((ji16) : Int).toNat * 6, none⟩ = false := hfr25 0
                        have hf25_1 : World.frozen? _ ⟨go23, ((ji16) : Int).toNat * 6 + 1, none⟩ = false := hfr25 1
                        have hf25_2 : World.frozen? _ ⟨go23, ((ji16) : Int).toNat * 6 + 2, none⟩ = false := hfr25 2
                        have hf25_3 : World.frozen? _ ⟨go23, ((ji16) : Int).toNat * 6 + 3, none⟩ = false := hfr25 3
                        have hf25_4 : World.frozen? _ ⟨go23, ((ji16) : Int).toNat * 6 + 4, none⟩ = false := hfr25 4
                        have hf25_5 : World.frozen? _ ⟨go23, ((ji16) : Int).toNat * 6 + 5, none⟩ = false := hfr25 5
                        clear hcl25 hcc25 hfr25 hM25
                        obtain ⟨ce26, hcl26, hM26, hcc26, hfr26⟩ := Kd.R_elem HO350.out z24 ((ji16) : Int) (of_decide_eq_true (by first | (with_reducible assumption) | assumption)) (show ((ji16) : Int) < ((y348.length : Nat) : Int) from of_decide_eq_true (by first | (with_reducible assumption) | assumption))
                        obtain rfl := k24_openM hM26
                        have hy26_0 : World.cell? _ ⟨go23, ((ji16) : Int).toNat * 6, none⟩ = some (.int .i64 ((rd_T24 y348 (ji16)).f0)) := hcc26 0 _ rfl
                        have hy26_1 : World.cell? _ ⟨go23, ((ji16) : Int).toNat * 6 + 1, none⟩ = some (.int .i64 ((rd_T24 y348 (ji16)).f1)) := hcc26 1 _ rfl
                        have hy26_2 : World.cell? _ ⟨go23, ((ji16) : Int).toNat * 6 + 2, none⟩ = some (.int .i64 ((rd_T24 y348 (ji16)).f2)) := hcc26 2 _ rfl
                        have hy26_3 : World.cell? _ ⟨go23, ((ji16) : Int).toNat * 6 + 3, none⟩ = some (.int .i64 ((rd_T24 y348 (ji16)).f3)) := hcc26 3 _ rfl
                        have hy26_4 : World.cell? _ ⟨go23, ((ji16) : Int).toNat * 6 + 4, none⟩ = some (.string ((rd_T24 y348 (ji16)).f4)) := hcc26 4 _ rfl
                        have hy26_5 : World.cell? _ ⟨go23, ((ji16) : Int).toNat * 6 + 5, none⟩ = some (.string ((rd_T24 y348 (ji16)).f5)) := hcc26 5 _ rfl
                        have hg26_0 : World.frozen? _ ⟨go23, ((ji16) : Int).toNat * 6, none⟩ = false := hfr26 0
                        have hg26_1 : World.frozen? _ ⟨go23, ((ji16) : Int).toNat * 6 + 1, none⟩ = false := hfr26 1
                        have hg26_2 : World.frozen? _ ⟨go23, ((ji16) : Int).toNat * 6 + 2, none⟩ = false := hfr26 2
                        have hg26_3 : World.frozen? _ ⟨go23, ((ji16) : Int).toNat * 6 + 3, none⟩ = false := hfr26 3
                        have hg26_4 : World.frozen? _ ⟨go23, ((ji16) : Int).toNat * 6 + 4, none⟩ = false := hfr26 4
                        have hg26_5 : World.frozen? _ ⟨go23, ((ji16) : Int).toNat * 6 + 5, none⟩ = false := hfr26 5
                        clear hcl26 hcc26 hfr26 hM26
                        replace p25 := eq_true p25
                        replace q25 := eq_true q25
                        obtain ⟨ce34, hcl34, hM34, hcc34, hfr34⟩ := Kd.R_elem HQ33.out z24 ((ji16) : Int) (of_decide_eq_true (by first | (with_reducible assumption) | assumption)) (by have h_ : ((ji16) : Int) < ((y348.length : Int) : Int) := of_decide_eq_true (by first | (with_reducible assumption) | assumption); first | exact h_ | (have e_ := (Kd.R_reads' HO350.out).1; omega) | simpa using h_)
                        obtain rfl := k24_openM hM34
                        have HP34 := (Kd.R_seg HQ33.out ((ji16) : Int) (of_decide_eq_true (by first | (with_reducible assumption) | assumption)) (by have h_ : ((ji16) : Int) < ((y348.length : Int) : Int) := of_decide_eq_true (by first | (with_reducible assumption) | assumption); first | exact h_ | (have e_ := (Kd.R_reads' HO350.out).1; omega) | simpa using h_) (seg := [.int .i64 ((rd_T24 l0 (ji19)).f0), .int .i64 ((rd_T24 l0 (ji19)).f1), .int .i64 ((rd_T24 l0 (ji19)).f2), .int .i64 ((rd_T24 l0 (ji19)).f3), .string ((rd_T24 l0 (ji19)).f4), .string ((rd_T24 l0 (ji19)).f5)]) (j := 0) hcl34 hcc34 (show 6 ≤ 6 from by decide) (x' := (⟨(rd_T24 l0 (ji19)).f0, (rd_T24 l0 (ji19)).f1, (rd_T24 l0 (ji19)).f2, (rd_T24 l0 (ji19)).f3, (rd_T24 l0 (ji19)).f4, (rd_T24 l0 (ji19)).f5⟩ : S24)) (k24_mkM _ _ _ (⟨(rd_T24 l0 (ji19)).f0, (rd_T24 l0 (ji19)).f1, (rd_T24 l0 (ji19)).f2, (rd_T24 l0 (ji19)).f3, (rd_T24 l0 (ji19)).f4, (rd_T24 l0 (ji19)).f5⟩ : S24) ) (fun _ hk => hk)).1
                        rw [← Ny354.out] at HP34
                        have HQ34 := Aside0.mk HP34
                        clear hcl34 hcc34 hfr34 hM34 HP34
                        have hnA : 0 ≤ ji19 := of_decide_eq_true c20b0
                        have hnB : ji19 < (l0.length : Int) := of_decide_eq_true c21b0
                        have hnC : 0 ≤ ji16 := of_decide_eq_true c17b0
                        have hnL : l0.length ≤ 9223372036854775807 := HR0.out.2.1
                        have hnq : ¬ ji19.toNat = ji16.toNat := by have h := hji16; unfold wrap64 at h; omega
                        have hnq' : ¬ ji16.toNat = ji19.toNat := fun h => hnq h.symm
                        clear hnA hnB hnC hnL
                        refine start_ (n := 18) (S := fun w' => w'.cell? (ad351.add (((ji16)).toNat * 6)) = some (.int .i64 ((rd_T24 l0 (ji16)).f0)) ∧ w'.cell? ⟨(ad351.add (((ji16)).toNat * 6)).block, (ad351.add (((ji16)).toNat * 6)).off + 1, none⟩ = some (.int .i64 ((rd_T24 l0 (ji16)).f1)) ∧ w'.cell? ⟨(ad351.add (((ji16)).toNat * 6)).block, (ad351.add (((ji16)).toNat * 6)).off + 2, none⟩ = some (.int .i64 ((rd_T24 l0 (ji16)).f2)) ∧ w'.cell? ⟨(ad351.add (((ji16)).toNat * 6)).block, (ad351.add (((ji16)).toNat * 6)).off + 3, none⟩ = some (.int .i64 ((rd_T24 l0 (ji16)).f3)) ∧ w'.cell? ⟨(ad351.add (((ji16)).toNat * 6)).block, (ad351.add (((ji16)).toNat * 6)).off + 4, none⟩ = some (.string ((rd_T24 l0 (ji16)).f4)) ∧ w'.cell? ⟨(ad351.add (((ji16)).toNat * 6)).block, (ad351.add (((ji16)).toNat * 6)).off + 5, none⟩ = some (.string ((rd_T24 l0 (ji16)).f5)) ∧ w'.cell? (ad351.add (((ji19)).toNat * 6)) = some (.int .i64 ((rd_T24 l0 (ji19)).f0)) ∧ w'.cell? ⟨(ad351.add (((ji19)).toNat * 6)).block, (ad351.add (((ji19)).toNat * 6)).off + 1, none⟩ = some (.int .i64 ((rd_T24 l0 (ji19)).f1)) ∧ w'.cell? ⟨(ad351.add (((ji19)).toNat * 6)).block, (ad351.add (((ji19)).toNat * 6)).off + 2, none⟩ = some (.int .i64 ((rd_T24 l0 (ji19)).f2)) ∧ w'.cell? ⟨(ad351.add (((ji19)).toNat * 6)).block, (ad351.add (((ji19)).toNat * 6)).off + 3, none⟩ = some (.int .i64 ((rd_T24 l0 (ji19)).f3)) ∧ w'.cell? ⟨(ad351.add (((ji19)).toNat * 6)).block, (ad351.add (((ji19)).toNat * 6)).off + 4, none⟩ = some (.string ((rd_T24 l0 (ji19)).f4)) ∧ w'.cell? ⟨(ad351.add (((ji19)).toNat * 6)).block, (ad351.add (((ji19)).toNat * 6)).off + 5, none⟩ = some (.string ((rd_T24 l0 (ji19)).f5))) (ds := [15, 17]) #[false, false, false, false, false, false, false, false, false, false, false, false, false, false, false, false, false, false] (by kernel_rfl) rfl rfl ⟨((HB.out.cell (World.block_lt_of_cell? w _ hw351_0)).trans hw351_0), ((HB.out.cell (World.block_lt_of_cell? w _ hw351_1)).trans hw351_1), ((HB.out.cell (World.block_lt_of_cell? w _ hw351_2)).trans hw351_2), ((HB.out.cell (World.block_lt_of_cell? w _ hw351_3)).trans hw351_3), ((HB.out.cell (World.block_lt_of_cell? w _ hw351_4)).trans hw351_4), ((HB.out.cell (World.block_lt_of_cell? w _ hw351_5)).trans hw351_5), ((HB.out.cell (World.block_lt_of_cell? w _ hw352_0)).trans hw352_0), ((HB.out.cell (World.block_lt_of_cell? w _ hw352_1)).trans hw352_1), ((HB.out.cell (World.block_lt_of_cell? w _ hw352_2)).trans hw352_2), ((HB.out.cell (World.block_lt_of_cell? w _ hw352_3)).trans hw352_3), ((HB.out.cell (World.block_lt_of_cell? w _ hw352_4)).trans hw352_4), ((HB.out.cell (World.block_lt_of_cell? w _ hw352_5)).trans hw352_5)⟩ (fun hHeld => ?_); refine with_tabW cohousinglaw33_LedgerOrder.tab6 cohousinglaw33_LedgerOrder.bits6 (fun HT_ HW_ => ?_)
                        generalize w31.drew = w32 at HO350 HB GG23 HQ33 HQ34 hf23_0 hf23_1 hf23_2 hf23_3 hf23_4 hf23_5 hy26_0 hy26_1 hy26_2 hy26_3 hy26_4 hy26_5 hg26_0 hg26_1 hg26_2 hg26_3 hg26_4 hg26_5 hf25_0 hf25_1 hf25_2 hf25_3 hf25_4 hf25_5 hx23_0 hx23_1 hx23_2 hx23_3 hx23_4 hx23_5 hx25_0 hx25_1 hx25_2 hx25_3 hx25_4 hx25_5 hx351_0 hx351_1 hx351_2 hx351_3 hx351_4 hx351_5 hx352_0 hx352_1 hx352_2 hx352_3 hx352_4 hx352_5 hHeld ⊢
                        refine pure_ (i := 0) (N := some 45) (v := ?_) (a' := ?_) #[true, false, false, false, false, false, false, false, false, false, false, false, false, false, false, false, false, false] rfl rfl (any_of HT_.out (by kernel_rfl)) (fun _ _ _ h => h) (Or.inl ⟨by rfl, ?_⟩) ?_ ?_
                        rotate_left
                        · intro w'
                          go_simp
                          with_reducible rfl
                        rotate_left
                        · simp only [Act.put, List.setIfInBounds_toArray, List.set_cons_zero, List.set_cons_succ, i64_w, i32_w]
                          rfl
                        refine pure_ (i := 1) (N := some 46) (v := ?_) (a' := ?_) #[true, true, false, false, false, false, false, false, false, false, false, false, false, false, false, false, false, false] rfl rfl (any_of HT_.out (by kernel_rfl)) (fun _ _ _ h => h) (Or.inl ⟨by rfl, ?_⟩) ?_ ?_
                        rotate_left
                        · intro w'
                          go_simp
                          with_reducible rfl
                        rotate_left
                        · simp only [Act.put, List.setIfInBounds_toArray, List.set_cons_zero, List.set_cons_succ, i64_w, i32_w]
                          rfl
                        refine pure_ (i := 2) (N := some 47) (v := ?_) (a' := ?_) #[true, true, true, false, false, false, false, false, false, false, false, false, false, false, false, false, false, false] rfl rfl (any_of HT_.out (by kernel_rfl)) (fun _ _ _ h => h) (Or.inl ⟨by rfl, ?_⟩) ?_ ?_
                        rotate_left
                        · intro w'
                          go_simp
                          with_reducible rfl
                        rotate_left
                        · simp only [Act.put, List.setIfInBounds_toArray, List.set_cons_zero, List.set_cons_succ, i64_w, i32_w]
                          rfl
                        refine pure_ (i := 3) (N := some 48) (v := ?_) (a' := ?_) #[true, true, true, true, false, false, false, false, false, false, false, false, false, false, false, false, false, false] rfl rfl (any_of HT_.out (by kernel_rfl)) (fun _ _ _ h => h) (Or.inl ⟨by rfl, ?_⟩) ?_ ?_
                        rotate_left
                        · intro w'
                          go_simp
                          with_reducible rfl
                        rotate_left
                        · simp only [Act.put, List.setIfInBounds_toArray, List.set_cons_zero, List.set_cons_succ, i64_w, i32_w]
                          rfl
                        refine pure_ (i := 4) (N := some 49) (v := ?_) (a' := ?_) #[true, true, true, true, true, false, false, false, false, false, false, false, false, false, false, false, false, false] rfl rfl (any_of HT_.out (by kernel_rfl)) (fun _ _ _ h => h) (Or.inl ⟨by rfl, ?_⟩) ?_ ?_
                        rotate_left
                        · intro w'
                          go_simp
                          with_reducible rfl
                        rotate_left
                        · simp only [Act.put, List.setIfInBounds_toArray, List.set_cons_zero, List.set_cons_succ, i64_w, i32_w]
                          rfl
                        refine pure_ (i := 5) (N := some 50) (v := ?_) (a' := ?_) #[true, true, true, true, true, true, false, false, false, false, false, false, false, false, false, false, false, false] rfl rfl (any_of HT_.out (by kernel_rfl)) (fun _ _ _ h => h) (Or.inl ⟨by rfl, ?_⟩) ?_ ?_
                        rotate_left
                        · intro w'
                          go_simp
                          with_reducible rfl
                        rotate_left
                        · simp only [Act.put, List.setIfInBounds_toArray, List.set_cons_zero, List.set_cons_succ, i64_w, i32_w]
                          rfl
                        refine pure_ (i := 6) (N := some 51) (v := ?_) (a' := ?_) #[true, true, true, true, true, true, true, false, false, false, false, false, false, false, false, false, false, false] rfl rfl (any_of HT_.out (by kernel_rfl)) (fun _ _ _ h => h) (Or.inl ⟨by rfl, ?_⟩) ?_ ?_
                        rotate_left
                        · intro w'
                          go_simp
                          with_reducible rfl
                        rotate_left
                        · simp only [Act.put, List.setIfInBounds_toArray, List.set_cons_zero, List.set_cons_succ, i64_w, i32_w]
                          rfl
                        refine pure_ (i := 7) (N := some 52) (v := ?_) (a' := ?_) #[true, true, true, true, true, true, true, true, false, false, false, false, false, false, false, false, false, false] rfl rfl (any_of HT_.out (by kernel_rfl)) (fun _ _ _ h => h) (Or.inl ⟨by rfl, ?_⟩) ?_ ?_
                        rotate_left
                        · intro w'
                          go_simp
                          with_reducible rfl
                        rotate_left
                        · simp only [Act.put, List.setIfInBounds_toArray, List.set_cons_zero, List.set_cons_succ, i64_w, i32_w]
                          rfl
                        refine pure_ (i := 8) (N := some 53) (v := ?_) (a' := ?_) #[true, true, true, true, true, true, true, true, true, false, false, false, false, false, false, false, false, false] rfl rfl (any_of HT_.out (by kernel_rfl)) (fun _ _ _ h => h) (Or.inl ⟨by rfl, ?_⟩) ?_ ?_
                        rotate_left
                        · intro w'
                          go_simp
                          with_reducible rfl
                        rotate_left
                        · simp only [Act.put, List.setIfInBounds_toArray, List.set_cons_zero, List.set_cons_succ, i64_w, i32_w]
                          rfl
                        refine pure_ (i := 10) (N := some 55) (v := ?_) (a' := ?_) #[true, true, true, true, true, true, true, true, true, false, true, false, false, false, false, false, false, false] rfl rfl (any_of HT_.out (by kernel_rfl)) (fun _ _ _ h => h) (Or.inl ⟨by rfl, ?_⟩) ?_ ?_
                        rotate_left
                        · intro w'
                          go_simp
                          with_reducible rfl
                        rotate_left
                        · simp only [Act.put, List.setIfInBounds_toArray, List.set_cons_zero, List.set_cons_succ, i64_w, i32_w]
                          rfl
                        refine pure_ (i := 11) (N := some 56) (v := ?_) (a' := ?_) #[true, true, true, true, true, true, true, true, true, false, true, true, false, false, false, false, false, false] rfl rfl (any_of HT_.out (by kernel_rfl)) (fun _ _ _ h => h) (Or.inl ⟨by rfl, ?_⟩) ?_ ?_
                        rotate_left
                        · intro w'
                          go_simp
                          with_reducible rfl
                        rotate_left
                        · simp only [Act.put, List.setIfInBounds_toArray, List.set_cons_zero, List.set_cons_succ, i64_w, i32_w]
                          rfl
                        refine pure_ (i := 12) (N := some 57) (v := ?_) (a' := ?_) #[true, true, true, true, true, true, true, true, true, false, true, true, true, false, false, false, false, false] rfl rfl (any_of HT_.out (by kernel_rfl)) (fun _ _ _ h => h) (Or.inl ⟨by rfl, ?_⟩) ?_ ?_
                        rotate_left
                        · intro w'
                          go_simp
                          with_reducible rfl
                        rotate_left
                        · simp only [Act.put, List.setIfInBounds_toArray, List.set_cons_zero, List.set_cons_succ, i64_w, i32_w]
                          rfl
                        refine take_ (i := 9) (N := some 54) (v := ?_) (a' := ?_) #[true, true, true, true, true, true, true, true, true, true, true, true, true, false, false, false, false, false] rfl rfl (take_ofW HT_.out HW_.out (by kernel_rfl)) (fun _ _ _ h => h) (Or.inl ⟨by rfl, ?_⟩) hHeld ?_ ?_
                        rotate_left
                        · rintro w' ⟨s0, s1, s2, s3, s4, s5, s6, s7, s8, s9, s10, s11⟩
                          go_simp
                          with_reducible rfl
                        rotate_left
                        · simp only [Act.put, List.setIfInBounds_toArray, List.set_cons_zero, List.set_cons_succ, i64_w, i32_w]
                          rfl
                        refine take_ (i := 13) (N := some 58) (v := ?_) (a' := ?_) #[true, true, true, true, true, true, true, true, true, true, true, true, true, true, false, false, false, false] rfl rfl (take_ofW HT_.out HW_.out (by kernel_rfl)) (fun _ _ _ h => h) (Or.inl ⟨by rfl, ?_⟩) hHeld ?_ ?_
                        rotate_left
                        · rintro w' ⟨s0, s1, s2, s3, s4, s5, s6, s7, s8, s9, s10, s11⟩
                          go_simp
                          with_reducible rfl
                        rotate_left
                        · simp only [Act.put, List.setIfInBounds_toArray, List.set_cons_zero, List.set_cons_succ, i64_w, i32_w]
                          rfl
                        refine pure_ (i := 14) (N := some 59) (v := ?_) (a' := ?_) #[true, true, true, true, true, true, true, true, true, true, true, true, true, true, true, false, false, false] rfl rfl (any_of HT_.out (by kernel_rfl)) (fun _ _ _ h => h) (Or.inl ⟨by rfl, ?_⟩) ?_ ?_
                        rotate_left
                        · intro w'
                          go_simp
                          with_reducible rfl
                        rotate_left
                        · simp only [Act.put, List.setIfInBounds_toArray, List.set_cons_zero, List.set_cons_succ, i64_w, i32_w]
                          rfl
                        refine last_ (i := 15) (N := none) #[true, true, true, true, true, true, true, true, true, true, true, true, true, true, true, true, false, false] rfl rfl (one_of HT_.out (by kernel_rfl)) (by decide) (fun K hK => ?_)
                        refine skip_ (w1 := ?_) (by rfl) rfl ?_ ?_
                        rotate_left
                        · go_simp
                          rfl
                        refine hK.out _ _ ?_
                        clear hK K
                        refine pure_ (i := 16) (N := some 60) (v := ?_) (a' := ?_) #[true, true, true, true, true, true, true, true, true, true, true, true, true, true, true, true, true, false] rfl rfl (any_of HT_.out (by kernel_rfl)) (fun _ _ _ h => h) (Or.inl ⟨by rfl, ?_⟩) ?_ ?_
                        rotate_left
                        · intro w'
                          go_simp
                          with_reducible rfl
                        rotate_left
                        · simp only [Act.put, List.setIfInBounds_toArray, List.set_cons_zero, List.set_cons_succ, i64_w, i32_w]
                          rfl
                        refine last_ (i := 17) (N := none) #[true, true, true, true, true, true, true, true, true, true, true, true, true, true, true, true, true, true] rfl rfl (one_of HT_.out (by kernel_rfl)) (by decide) (fun K hK => ?_)
                        refine skip_ (w1 := ?_) (by rfl) rfl ?_ ?_
                        rotate_left
                        · go_simp
                          rfl
                        refine hK.out _ _ ?_
                        clear hK K
                        refine done_ (done_of HT_.out (by kernel_rfl)) ?_
                        go_upto_region 9 with (first | ((with_reducible refine gate_callee (f := 20) rfl ?_); refine goesL_ (some 63) rfl rfl Try.func20 (by kernel_rfl) rfl #[.slice (some ad351) l0.length c0] rfl (by (try simp only [List.map_toArray, List.map_cons, List.map_nil]); first | done | rfl | (simp only [List.length_drop, List.length_take]; rfl)) ?_; (with_reducible refine (ledger_Accounts.calls _ _ l0 t355 t356 _ ?side1 ?side2 A26.out).mono ?_); (case side1 => exact Kd.C_below HR0.out (by repeat (first | (with_reducible first | exact HB.out | apply below_alloc | apply pw_below_drewN | apply below_drew1 | refine below_set ?_ GB23.out | refine below_set ?_ GB23.out | refine below_set ?_ GB23.out | refine below_set ?_ GB23.out | refine below_set ?_ GB23.out | refine below_set ?_ GB23.out | refine below_set ?_ GB23.out | refine below_set ?_ GB23.out | refine below_set ?_ GB23.out | refine below_set ?_ GB23.out | refine below_set ?_ GB23.out | refine below_set ?_ GB23.out) | exact HB.out))); (case side2 => exact HC0.out); rintro e w35 ⟨v357, rfl, ho0, hb⟩; refine ⟨_, rfl, ?_⟩; have n0_ := Aside0.mk (Kd.R_below (by (with_reducible repeat (first | apply Kd.R_alloc | apply Kd.R_drewN | apply Kd.R_drew)); exact HQ34.out) hb); have n1_ := Aside0.mk (Kd.R_lower ho0 (below_size (by repeat (first | (with_reducible first | exact HB.out | apply below_alloc | apply pw_below_drewN | apply below_drew1 | refine below_set ?_ GB23.out | refine below_set ?_ GB23.out | refine below_set ?_ GB23.out | refine below_set ?_ GB23.out | refine below_set ?_ GB23.out | refine below_set ?_ GB23.out | refine below_set ?_ GB23.out | refine below_set ?_ GB23.out | refine below_set ?_ GB23.out | refine below_set ?_ GB23.out | refine below_set ?_ GB23.out | refine below_set ?_ GB23.out) | exact HB.out)))); have n2_ := Aside0.mk (below_step (by repeat (first | (with_reducible first | exact HB.out | apply below_alloc | apply pw_below_drewN | apply below_drew1 | refine below_set ?_ GB23.out | refine below_set ?_ GB23.out | refine below_set ?_ GB23.out | refine below_set ?_ GB23.out | refine below_set ?_ GB23.out | refine below_set ?_ GB23.out | refine below_set ?_ GB23.out | refine below_set ?_ GB23.out | refine below_set ?_ GB23.out | refine below_set ?_ GB23.out | refine below_set ?_ GB23.out | refine below_set ?_ GB23.out) | exact HB.out)) hb); clear HO350; clear HB; have HO350 := n0_; have HO358 := n1_; have HB := n2_; clear n0_ n1_ n2_; (try clear hb); (try clear hb2); (try clear hk); (try clear hi); (try clear ho0)) | ((with_reducible refine gate_callee (f := 20) rfl ?_); refine goesL_ (some 68) rfl rfl Try.func20 (by kernel_rfl) rfl #[.slice (some ⟨go23, 0, none⟩) y354.length co23] rfl (by (try simp only [List.map_toArray, List.map_cons, List.map_nil]); first | done | (rw [show y354.length = y348.length from (Kd.R_reads' HO350.out).1.symm] <;> rfl) | rfl | (simp only [List.length_drop, List.length_take]; rfl)) ?_; (with_reducible refine (ledger_Accounts.calls _ _ y354 t359 t360 _ ?side1 ?side2 A27.out).mono ?_); (case side1 => repeat (first | exact (Kd.R_reads' HO350.out).2.2 | (with_reducible refine Kd.C_alloc ?_ _) | (with_reducible refine Kd.C_drewN ?_ _) | (with_reducible refine Kd.C_drew ?_))); (case side2 => rw [show y354.length = y348.length from (Kd.R_reads' HO350.out).1.symm]; exact (Kd.R_reads' HO350.out).2.1); rintro e w36 ⟨v361, rfl, ho0, hb⟩; refine ⟨_, rfl, ?_⟩; have n0_ := Aside0.mk (Kd.R_below (by (with_reducible repeat (first | apply Kd.R_alloc | apply Kd.R_drewN | apply Kd.R_drew)); exact HO350.out) hb); have n1_ := Aside0.mk (Kd.R_elder' (by (with_reducible repeat (first | apply Kd.R_alloc | apply Kd.R_drewN | apply Kd.R_drew)); exact HO358.out) (Kd.R_base ho0) hb); have n2_ := Aside0.mk (Kd.R_lower (Kd.R_new' ho0 (Kd.R_lt (by (with_reducible repeat (first | apply Kd.R_alloc | apply Kd.R_drewN | apply Kd.R_drew)); exact HO358.out))) (below_size (by repeat (first | (with_reducible first | exact HB.out | apply below_alloc | apply pw_below_drewN | apply below_drew1) | exact HB.out)))); have n3_ := Aside0.mk (below_step (by repeat (first | (with_reducible first | exact HB.out | apply below_alloc | apply pw_below_drewN | apply below_drew1) | exact HB.out)) hb); clear HO350; clear HO358; clear HB; have HO350 := n0_; have HO358 := n1_; have HO362 := n2_; have HB := n3_; clear n0_ n1_ n2_ n3_; (try clear hb); (try clear hb2); (try clear hk); (try clear hi); (try clear ho0)))
                        (try simp only [Act.put, List.setIfInBounds_toArray, List.set_cons_zero, List.set_cons_succ])
                        go_cut [11] (fun v11 wc => ∃ (kq : Nat) (x11_27 : Bool), v11 = .bool x11_27 ∧ Aside0 (cohousinglaw33_LedgerOrder.j1 kq l0 a2 a3 a4 x11_27 ji19 y354 = some r) ∧ Aside0 (kq ≤ kj6) ∧ Aside0 (Kd.R k24 24 wc w.heap.size (fun _ => True) (.slice (some ⟨go23, 0, none⟩) y348.length co23) y354) ∧ Aside0 (Below w.heap.size w wc))
                        case first =>
                          have H := HC28.out
                          clear HC28
                          by_cases c37 : t343 = true
                          · subst c37
                            have H1 : (if t356 = t360 then ((cohousingref33_SameNames.f kj6 t355 t359).bind fun t363 => (if t363 = true then ((ledger_Valid.f y354).bind fun t364 => (cohousinglaw33_LedgerOrder.j1 kj6 l0 a2 a3 a4 t364 ji19 y354)) else (cohousinglaw33_LedgerOrder.j1 kj6 l0 a2 a3 a4 false ji19 y354))) else (cohousinglaw33_LedgerOrder.j1 kj6 l0 a2 a3 a4 false ji19 y354)) = some r := by rw [if_pos rfl] at H; exact H
                            clear H
                            have H := H1
                            clear H1
                            by_cases c38 : t356 = t360
                            · rw [if_pos c38] at H
                              have c38b0 : (t356 == t360) = true := beq_iff_eq.mpr c38
                              have c38b1 : (t356 != t360) = false := bne_eq_false_iff_eq.mpr c38
                              clear c38
                              (first | rw [c38b0] | (simp only [i64_w, i32_w]; rw [c38b0]) | skip)
                              replace H := Option.bind_eq_some_iff.mp H
                              obtain ⟨t363, A390, H⟩ := H
                              replace H : (if t363 = true then ((ledger_Valid.f y354).bind fun t364 => (cohousinglaw33_LedgerOrder.j1 kj6 l0 a2 a3 a4 t364 ji19 y354)) else (cohousinglaw33_LedgerOrder.j1 kj6 l0 a2 a3 a4 false ji19 y354)) = some r := H
                              have A39 := Aside0.mk A390
                              clear A390
                              by_cases c40 : t363 = true
                              · subst c40
                                have H1 : ((ledger_Valid.f y354).bind fun t364 => (cohousinglaw33_LedgerOrder.j1 kj6 l0 a2 a3 a4 t364 ji19 y354)) = some r := by rw [if_pos rfl] at H; exact H
                                clear H
                                have H := H1
                                clear H1
                                replace H := Option.bind_eq_some_iff.mp H
                                obtain ⟨t364, A410, H⟩ := H
                                replace H : (cohousinglaw33_LedgerOrder.j1 kj6 l0 a2 a3 a4 t364 ji19 y354) = some r := H
                                have A41 := Aside0.mk A410
                                clear A410
                                have H' := Aside0.mk H
                                clear H
                                obtain ⟨Ao42, co42, eo42⟩ := Kd.R_slice HO358.out
                                subst eo42
                                obtain ⟨Ao43, co43, eo43⟩ := Kd.R_slice HO362.out
                                subst eo43
                                go_wp2_with (first | (go_at_call 22; (with_reducible refine (cohousingref33_SameNames.calls kj6 _ _ t355 _ _ t359 true _ ?side1 ?side2 ?side3 ?side4 A39.out).mono ?_); (case side1 => repeat (first | exact (Kd.R_reads' HO358.out).2.2 | (with_reducible refine Kd.C_alloc ?_ _) | (with_reducible refine Kd.C_drewN ?_ _) | (with_reducible refine Kd.C_drew ?_))); (case side2 => exact (Kd.R_reads' HO358.out).2.1); (case side3 => repeat (first | exact (Kd.R_reads' HO362.out).2.2 | (with_reducible refine Kd.C_alloc ?_ _) | (with_reducible refine Kd.C_drewN ?_ _) | (with_reducible refine Kd.C_drew ?_))); (case side4 => exact (Kd.R_reads' HO362.out).2.1); rintro e w' ⟨rfl, ⟨nd, rfl⟩⟩) | (go_at_call 15; refine calls_of_args (args' := #[.slice (some ⟨go23, 0, none⟩) y354.length co23]) (by first | (rw [show y354.length = y348.length from (Kd.R_reads' HO350.out).1.symm] <;> rfl) | rfl) ?_; (with_reducible refine (ledger_Valid.calls _ _ y354 t364 _ ?side1 ?side2 A41.out).mono ?_); (case side1 => repeat (first | exact (Kd.R_reads' HO350.out).2.2 | (with_reducible refine Kd.C_alloc ?_ _) | (with_reducible refine Kd.C_drewN ?_ _) | (with_reducible refine Kd.C_drew ?_))); (case side2 => rw [show y354.length = y348.length from (Kd.R_reads' HO350.out).1.symm]; exact (Kd.R_reads' HO350.out).2.1); rintro e w44 ⟨rfl, hb⟩; have n0_ := Aside0.mk (Kd.R_below (by (with_reducible repeat (first | apply Kd.R_alloc | apply Kd.R_drewN | apply Kd.R_drew)); exact HO350.out) hb); have n1_ := Aside0.mk (Kd.R_below (by (with_reducible repeat (first | apply Kd.R_alloc | apply Kd.R_drewN | apply Kd.R_drew)); exact HO358.out) hb); have n2_ := Aside0.mk (Kd.R_below (by (with_reducible repeat (first | apply Kd.R_alloc | apply Kd.R_drewN | apply Kd.R_drew)); exact HO362.out) hb); have n3_ := Aside0.mk (below_step (by repeat (first | (with_reducible first | exact HB.out | apply below_alloc | apply pw_below_drewN | apply below_drew1) | exact HB.out)) hb); clear HO350; clear HO358; clear HO362; clear HB; have HO350 := n0_; have HO358 := n1_; have HO362 := n2_; have HB := n3_; clear n0_ n1_ n2_ n3_; (try clear hb); (try clear hb2); (try clear hk); (try clear hi)))
                                go_meet
                                case rel => exact ⟨_, (t364), (by first | rfl | (simp; done) | (simp [*]; done)), H', ⟨by have := HJ6.out; first | omega | exact Nat.le_refl _⟩, ⟨by (with_reducible repeat (first | apply Kd.R_alloc | apply Kd.R_drewN | apply Kd.R_drew)); exact HO350.out⟩, ⟨by repeat (first | (with_reducible first | exact HB.out | apply below_alloc | apply pw_below_drewN | apply below_drew1) | exact HB.out)⟩⟩
                              · replace c40 := Bool.eq_false_iff.mpr c40
                                subst c40
                                have H1 : (cohousinglaw33_LedgerOrder.j1 kj6 l0 a2 a3 a4 false ji19 y354) = some r := by rw [if_neg (show ¬ (false = true) by decide)] at H; exact H
                                clear H
                                have H := H1
                                clear H1
                                have H' := Aside0.mk H
                                clear H
                                obtain ⟨Ao45, co45, eo45⟩ := Kd.R_slice HO358.out
                                subst eo45
                                obtain ⟨Ao46, co46, eo46⟩ := Kd.R_slice HO362.out
                                subst eo46
                                go_wp2_with (first | (go_at_call 22; (with_reducible refine (cohousingref33_SameNames.calls kj6 _ _ t355 _ _ t359 false _ ?side1 ?side2 ?side3 ?side4 A39.out).mono ?_); (case side1 => repeat (first | exact (Kd.R_reads' HO358.out).2.2 | (with_reducible refine Kd.C_alloc ?_ _) | (with_reducible refine Kd.C_drewN ?_ _) | (with_reducible refine Kd.C_drew ?_))); (case side2 => exact (Kd.R_reads' HO358.out).2.1); (case side3 => repeat (first | exact (Kd.R_reads' HO362.out).2.2 | (with_reducible refine Kd.C_alloc ?_ _) | (with_reducible refine Kd.C_drewN ?_ _) | (with_reducible refine Kd.C_drew ?_))); (case side4 => exact (Kd.R_reads' HO362.out).2.1); rintro e w' ⟨rfl, ⟨nd, rfl⟩⟩))
                                go_meet
                                case rel => exact ⟨_, (false), (by first | rfl | (simp; done) | (simp [*]; done)), H', ⟨by have := HJ6.out; first | omega | exact Nat.le_refl _⟩, ⟨by (with_reducible repeat (first | apply Kd.R_alloc | apply Kd.R_drewN | apply Kd.R_drew)); exact HO350.out⟩, ⟨by repeat (first | (with_reducible first | exact HB.out | apply below_alloc | apply pw_below_drewN | apply below_drew1) | exact HB.out)⟩⟩
                            · rw [if_neg c38] at H
                              have c38b0 : (t356 == t360) = false := beq_eq_false_iff_ne.mpr c38
                              have c38b1 : (t356 != t360) = true := bne_iff_ne.mpr c38
                              (first | rw [c38b0] | (simp only [i64_w, i32_w]; rw [c38b0]) | skip)
                              have H' := Aside0.mk H
                              clear H
                              go_wp2
                              go_meet
                              case rel => exact ⟨_, (false), (by first | rfl | (simp; done) | (simp [*]; done)), H', ⟨by have := HJ6.out; first | omega | exact Nat.le_refl _⟩, ⟨by (with_reducible repeat (first | apply Kd.R_alloc | apply Kd.R_drewN | apply Kd.R_drew)); exact HO350.out⟩, ⟨by repeat (first | (with_reducible first | exact HB.out | apply below_alloc | apply pw_below_drewN | apply below_drew1) | exact HB.out)⟩⟩
                          · replace c37 := Bool.eq_false_iff.mpr c37
                            subst c37
                            have H1 : (cohousinglaw33_LedgerOrder.j1 kj6 l0 a2 a3 a4 false ji19 y354) = some r := by rw [if_neg (show ¬ (false = true) by decide)] at H; exact H
                            clear H
                            have H := H1
                            clear H1
                            have H' := Aside0.mk H
                            clear H
                            go_wp2
                            go_meet
                            case rel => exact ⟨_, (false), (by first | rfl | (simp; done) | (simp [*]; done)), H', ⟨by have := HJ6.out; first | omega | exact Nat.le_refl _⟩, ⟨by (with_reducible repeat (first | apply Kd.R_alloc | apply Kd.R_drewN | apply Kd.R_drew)); exact HO350.out⟩, ⟨by repeat (first | (with_reducible first | exact HB.out | apply below_alloc | apply pw_below_drewN | apply below_drew1) | exact HB.out)⟩⟩
                        case rest =>
                          clear HC28
                          try clear c1
                          try clear c2
                          try clear p2
                          try clear q2
                          try clear hx2
                          try clear c3
                          try clear p3
                          try clear q3
                          try clear hx3
                          try clear c4
                          try clear p6
                          try clear c8
                          try clear c10
                          try clear c11
                          try clear c13
                          try clear c14
                          try clear c14b0
                          try clear c14b1
                          try clear c15
                          try clear c17
                          try clear c17b0
                          try clear c18
                          try clear c18b0
                          try clear c20
                          try clear c20b0
                          try clear c21
                          try clear c21b0
                          try clear c22
                          try clear c22b0
                          try clear c23
                          try clear p23
                          try clear q23
                          try clear hx23
                          try clear hf23
                          try clear c24
                          try clear c24b0
                          try clear c25
                          try clear p25
                          try clear q25
                          try clear hx25
                          try clear hf25
                          try clear c33
                          try clear c34
                          try clear p35
                          try clear q35
                          try clear hx35
                          try clear c37
                          try clear c38
                          try clear c38b0
                          try clear c38b1
                          try clear c40
                          try clear hx23_0
                          try clear hx23_1
                          try clear hx23_2
                          try clear hx23_3
                          try clear hx23_4
                          try clear hx23_5
                          try clear hx25_0
                          try clear hx25_1
                          try clear hx25_2
                          try clear hx25_3
                          try clear hx25_4
                          try clear hx25_5
                          try clear hx351_0
                          try clear hx351_1
                          try clear hx351_2
                          try clear hx351_3
                          try clear hx351_4
                          try clear hx351_5
                          try clear hx352_0
                          try clear hx352_1
                          try clear hx352_2
                          try clear hx352_3
                          try clear hx352_4
                          try clear hx352_5
                          try clear p2
                          try clear p23
                          try clear p25
                          try clear p351
                          try clear p352
                          try clear q23
                          try clear q25
                          try clear q351
                          try clear q352
                          obtain ⟨kq, x11_27, rfl, HA, HJ27, HO_13, HB⟩ := hcut
                          have hl13_27 := (Kd.R_reads' HO_13.out).1
                          rw [hl13_27] at HO_13
                          (try simp only [hl13_27])
                          cases kq with
                          | zero => exact absurd HA.out (by simp [cohousinglaw33_LedgerOrder.j1])
                          | succ kj27 =>
                            have H := HA.out
                            clear HA
                            simp only [cohousinglaw33_LedgerOrder.j1] at H
                            by_cases c47 : 0 ≤ ji19
                            · rw [if_pos c47] at H
                              have c47b0 : decide (0 ≤ ji19) = true := decide_eq_true c47
                              clear c47
                              by_cases c48 : ji19 < (l0.length : Int)
                              · rw [if_pos c48] at H
                                have c48b0 : decide (ji19 < (l0.length : Int)) = true := decide_eq_true c48
                                clear c48
                                obtain ⟨ji49, hji49⟩ : ∃ j_ : Int, (wrap64 (ji19 + 1)) = j_ := ⟨_, rfl⟩
                                replace H : (if 0 ≤ (ji49) then (if (ji49) < (l0.length : Int) then ((some (([a2, (rd_T24 l0 ji19).f4, (rd_T24 l0 ji19).f5, (rd_T24 l0 (ji49)).f4] : List ByteArray) : List ByteArray)).bind fun y368 => (cohousinglaw33_LedgerOrder.l0 kj27 l0 a3 a4 x11_27 y354 y368 (y368.length : Int) 0)) else (none)) else (none)) = some r := by first | (rw [hji49] at H; exact H) | (simp only [hji49] at H ⊢; exact H)
                                have hji49w : (IntKind.i64.wrap (ji19 + 1)) = ji49 := (i64_w _).trans hji49
                                clear hji16 hji16w
                                by_cases c50 : 0 ≤ (ji49)
                                · rw [if_pos c50] at H
                                  have c50b0 : decide (0 ≤ (ji49)) = true := decide_eq_true c50
                                  clear c50
                                  by_cases c51 : (ji49) < (l0.length : Int)
                                  · rw [if_pos c51] at H
                                    have c51b0 : decide ((ji49) < (l0.length : Int)) = true := decide_eq_true c51
                                    clear c51
                                    obtain ⟨y368, hy368⟩ : ∃ y_ : List ByteArray, y_ = (([a2, (rd_T24 l0 ji19).f4, (rd_T24 l0 ji19).f5, (rd_T24 l0 (ji49)).f4] : List ByteArray)) := ⟨_, rfl⟩
                                    replace H : (cohousinglaw33_LedgerOrder.l0 kj27 l0 a3 a4 x11_27 y354 y368 (y368.length : Int) 0) = some r := by first | (rw [hy368]; with_reducible exact H) | (have H2_ := (Option.bind_some _ _).symm.trans H; rw [hy368]; with_reducible exact H2_) | (have H2_ := (Option.bind_some _ _).symm.trans H; with_reducible exact H2_) | with_reducible exact H | (rw [hy368]; exact H) | exact H
                                    have Ny368 := Aside0.mk hy368
                                    clear hy368
                                    have H' := Aside0.mk H
                                    clear H
                                    try go_wp2
                                    have n0_ := Aside0.mk (Kd.R_drew HO_13.out)
                                    have n1_ := Aside0.mk (below_drew1 HB.out)
                                    clear HO_13
                                    clear HB
                                    have HO_13 := n0_
                                    have HB := n1_
                                    clear n0_ n1_
                                    have p365 : 0 ≤ (ji19 : Int) := of_decide_eq_true (by first | (with_reducible assumption) | assumption)
                                    have q365 : ji19 < (l0.length : Int) := of_decide_eq_true (by first | (with_reducible assumption) | assumption)
                                    obtain ⟨ad365, e365, hx365_0, hx365_1, hx365_2, hx365_3, hx365_4, hx365_5⟩ := at_T24 HR0.out ji19 p365 q365
                                    have hw365_5 := hx365_5
                                    have hw365_4 := hx365_4
                                    have hw365_3 := hx365_3
                                    have hw365_2 := hx365_2
                                    have hw365_1 := hx365_1
                                    have hw365_0 := hx365_0
                                    obtain rfl : ad351 = ad365 := (by injection e365)
                                    replace hx365_0 := (HB.out.cell (World.block_lt_of_cell? w _ hx365_0)).trans hx365_0
                                    replace hx365_1 := (HB.out.cell (World.block_lt_of_cell? w _ hx365_1)).trans hx365_1
                                    replace hx365_2 := (HB.out.cell (World.block_lt_of_cell? w _ hx365_2)).trans hx365_2
                                    replace hx365_3 := (HB.out.cell (World.block_lt_of_cell? w _ hx365_3)).trans hx365_3
                                    replace hx365_4 := (HB.out.cell (World.block_lt_of_cell? w _ hx365_4)).trans hx365_4
                                    replace hx365_5 := (HB.out.cell (World.block_lt_of_cell? w _ hx365_5)).trans hx365_5
                                    replace p365 := eq_true p365
                                    replace q365 := eq_true q365
                                    have p366 : 0 ≤ (ji19 : Int) := of_decide_eq_true (by first | (with_reducible assumption) | assumption)
                                    have q366 : ji19 < (l0.length : Int) := of_decide_eq_true (by first | (with_reducible assumption) | assumption)
                                    obtain ⟨ad366, e366, hx366_0, hx366_1, hx366_2, hx366_3, hx366_4, hx366_5⟩ := at_T24 HR0.out ji19 p366 q366
                                    have hw366_5 := hx366_5
                                    have hw366_4 := hx366_4
                                    have hw366_3 := hx366_3
                                    have hw366_2 := hx366_2
                                    have hw366_1 := hx366_1
                                    have hw366_0 := hx366_0
                                    obtain rfl : ad351 = ad366 := (by injection e366)
                                    replace hx366_0 := (HB.out.cell (World.block_lt_of_cell? w _ hx366_0)).trans hx366_0
                                    replace hx366_1 := (HB.out.cell (World.block_lt_of_cell? w _ hx366_1)).trans hx366_1
                                    replace hx366_2 := (HB.out.cell (World.block_lt_of_cell? w _ hx366_2)).trans hx366_2
                                    replace hx366_3 := (HB.out.cell (World.block_lt_of_cell? w _ hx366_3)).trans hx366_3
                                    replace hx366_4 := (HB.out.cell (World.block_lt_of_cell? w _ hx366_4)).trans hx366_4
                                    replace hx366_5 := (HB.out.cell (World.block_lt_of_cell? w _ hx366_5)).trans hx366_5
                                    replace p366 := eq_true p366
                                    replace q366 := eq_true q366
                                    have p367 : 0 ≤ ((ji49) : Int) := of_decide_eq_true (by first | (with_reducible assumption) | assumption)
                                    have q367 : (ji49) < (l0.length : Int) := of_decide_eq_true (by first | (with_reducible assumption) | assumption)
                                    obtain ⟨ad367, e367, hx367_0, hx367_1, hx367_2, hx367_3, hx367_4, hx367_5⟩ := at_T24 HR0.out (ji49) p367 q367
                                    have hw367_5 := hx367_5
                                    have hw367_4 := hx367_4
                                    have hw367_3 := hx367_3
                                    have hw367_2 := hx367_2
                                    have hw367_1 := hx367_1
                                    have hw367_0 := hx367_0
                                    obtain rfl : ad351 = ad367 := (by injection e367)
                                    replace hx367_0 := (HB.out.cell (World.block_lt_of_cell? w _ hx367_0)).trans hx367_0
                                    replace hx367_1 := (HB.out.cell (World.block_lt_of_cell? w _ hx367_1)).trans hx367_1
                                    replace hx367_2 := (HB.out.cell (World.block_lt_of_cell? w _ hx367_2)).trans hx367_2
                                    replace hx367_3 := (HB.out.cell (World.block_lt_of_cell? w _ hx367_3)).trans hx367_3
                                    replace hx367_4 := (HB.out.cell (World.block_lt_of_cell? w _ hx367_4)).trans hx367_4
                                    replace hx367_5 := (HB.out.cell (World.block_lt_of_cell? w _ hx367_5)).trans hx367_5
                                    replace p367 := eq_true p367
                                    replace q367 := eq_true q367
                                    refine start_ (n := 20) (S := fun w' => w'.cell? (ad351.add ((ji19).toNat * 6)) = some (.int .i64 ((rd_T24 l0 ji19).f0)) ∧ w'.cell? ⟨(ad351.add ((ji19).toNat * 6)).block, (ad351.add ((ji19).toNat * 6)).off + 1, none⟩ = some (.int .i64 ((rd_T24 l0 ji19).f1)) ∧ w'.cell? ⟨(ad351.add ((ji19).toNat * 6)).block, (ad351.add ((ji19).toNat * 6)).off + 2, none⟩ = some (.int .i64 ((rd_T24 l0 ji19).f2)) ∧ w'.cell? ⟨(ad351.add ((ji19).toNat * 6)).block, (ad351.add ((ji19).toNat * 6)).off + 3, none⟩ = some (.int .i64 ((rd_T24 l0 ji19).f3)) ∧ w'.cell? ⟨(ad351.add ((ji19).toNat * 6)).block, (ad351.add ((ji19).toNat * 6)).off + 4, none⟩ = some (.string ((rd_T24 l0 ji19).f4)) ∧ w'.cell? ⟨(ad351.add ((ji19).toNat * 6)).block, (ad351.add ((ji19).toNat * 6)).off + 5, none⟩ = some (.string ((rd_T24 l0 ji19).f5)) ∧ w'.cell? (ad351.add ((ji19).toNat * 6)) = some (.int .i64 ((rd_T24 l0 ji19).f0)) ∧ w'.cell? ⟨(ad351.add ((ji19).toNat * 6)).block, (ad351.add ((ji19).toNat * 6)).off + 1, none⟩ = some (.int .i64 ((rd_T24 l0 ji19).f1)) ∧ w'.cell? ⟨(ad351.add ((ji19).toNat * 6)).block, (ad351.add ((ji19).toNat * 6)).off + 2, none⟩ = some (.int .i64 ((rd_T24 l0 ji19).f2)) ∧ w'.cell? ⟨(ad351.add ((ji19).toNat * 6)).block, (ad351.add ((ji19).toNat * 6)).off + 3, none⟩ = some (.int .i64 ((rd_T24 l0 ji19).f3)) ∧ w'.cell? ⟨(ad351.add ((ji19).toNat * 6)).block, (ad351.add ((ji19).toNat * 6)).off + 4, none⟩ = some (.string ((rd_T24 l0 ji19).f4)) ∧ w'.cell? ⟨(ad351.add ((ji19).toNat * 6)).block, (ad351.add ((ji19).toNat * 6)).off + 5, none⟩ = some (.string ((rd_T24 l0 ji19).f5)) ∧ w'.cell? (ad351.add (((ji49)).toNat * 6)) = some (.int .i64 ((rd_T24 l0 (ji49)).f0)) ∧ w'.cell? ⟨(ad351.add (((ji49)).toNat * 6)).block, (ad351.add (((ji49)).toNat * 6)).off + 1, none⟩ = some (.int .i64 ((rd_T24 l0 (ji49)).f1)) ∧ w'.cell? ⟨(ad351.add (((ji49)).toNat * 6)).block, (ad351.add (((ji49)).toNat * 6)).off + 2, none⟩ = some (.int .i64 ((rd_T24 l0 (ji49)).f2)) ∧ w'.cell? ⟨(ad351.add (((ji49)).toNat * 6)).block, (ad351.add (((ji49)).toNat * 6)).off + 3, none⟩ = some (.int .i64 ((rd_T24 l0 (ji49)).f3)) ∧ w'.cell? ⟨(ad351.add (((ji49)).toNat * 6)).block, (ad351.add (((ji49)).toNat * 6)).off + 4, none⟩ = some (.string ((rd_T24 l0 (ji49)).f4)) ∧ w'.cell? ⟨(ad351.add (((ji49)).toNat * 6)).block, (ad351.add (((ji49)).toNat * 6)).off + 5, none⟩ = some (.string ((rd_T24 l0 (ji49)).f5))) (ds := []) #[false, false, false, false, false, false, false, false, false, false, false, false, false, false, false, false, false, false, false, false] (by kernel_rfl) rfl rfl ⟨((HB.out.cell (World.block_lt_of_cell? w _ hw365_0)).trans hw365_0), ((HB.out.cell (World.block_lt_of_cell? w _ hw365_1)).trans hw365_1), ((HB.out.cell (World.block_lt_of_cell? w _ hw365_2)).trans hw365_2), ((HB.out.cell (World.block_lt_of_cell? w _ hw365_3)).trans hw365_3), ((HB.out.cell (World.block_lt_of_cell? w _ hw365_4)).trans hw365_4), ((HB.out.cell (World.block_lt_of_cell? w _ hw365_5)).trans hw365_5), ((HB.out.cell (World.block_lt_of_cell? w _ hw366_0)).trans hw366_0), ((HB.out.cell (World.block_lt_of_cell? w _ hw366_1)).trans hw366_1), ((HB.out.cell (World.block_lt_of_cell? w _ hw366_2)).trans hw366_2), ((HB.out.cell (World.block_lt_of_cell? w _ hw366_3)).trans hw366_3), ((HB.out.cell (World.block_lt_of_cell? w _ hw366_4)).trans hw366_4), ((HB.out.cell (World.block_lt_of_cell? w _ hw366_5)).trans hw366_5), ((HB.out.cell (World.block_lt_of_cell? w _ hw367_0)).trans hw367_0), ((HB.out.cell (World.block_lt_of_cell? w _ hw367_1)).trans hw367_1), ((HB.out.cell (World.block_lt_of_cell? w _ hw367_2)).trans hw367_2), ((HB.out.cell (World.block_lt_of_cell? w _ hw367_3)).trans hw367_3), ((HB.out.cell (World.block_lt_of_cell? w _ hw367_4)).trans hw367_4), ((HB.out.cell (World.block_lt_of_cell? w _ hw367_5)).trans hw367_5)⟩ (fun hHeld => ?_); refine with_tabW cohousinglaw33_LedgerOrder.tab10 cohousinglaw33_LedgerOrder.bits10 (fun HT_ HW_ => ?_)
                                    generalize wc.drew = w52 at HO_13 HB hx365_0 hx365_1 hx365_2 hx365_3 hx365_4 hx365_5 hx366_0 hx366_1 hx366_2 hx366_3 hx366_4 hx366_5 hx367_0 hx367_1 hx367_2 hx367_3 hx367_4 hx367_5 hHeld ⊢
                                    refine pure_ (i := 0) (N := some 86) (v := ?_) (a' := ?_) #[true, false, false, false, false, false, false, false, false, false, false, false, false, false, false, false, false, false, false, false] rfl rfl (any_of HT_.out (by kernel_rfl)) (fun _ _ _ h => h) (Or.inl ⟨by rfl, ?_⟩) ?_ ?_
                                    rotate_left
                                    · intro w'
                                      go_simp
                                      with_reducible rfl
                                    rotate_left
                                    · simp only [Act.put, List.setIfInBounds_toArray, List.set_cons_zero, List.set_cons_succ, i64_w, i32_w]
                                      rfl
                                    refine pure_ (i := 1) (N := some 87) (v := ?_) (a' := ?_) #[true, true, false, false, false, false, false, false, false, false, false, false, false, false, false, false, false, false, false, false] rfl rfl (any_of HT_.out (by kernel_rfl)) (fun _ _ _ h => h) (Or.inl ⟨by rfl, ?_⟩) ?_ ?_
                                    rotate_left
                                    · intro w'
                                      go_simp
                                      with_reducible rfl
                                    rotate_left
                                    · simp only [Act.put, List.setIfInBounds_toArray, List.set_cons_zero, List.set_cons_succ, i64_w, i32_w]
                                      rfl
                                    refine pure_ (i := 2) (N := some 88) (v := ?_) (a' := ?_) #[true, true, true, false, false, false, false, false, false, false, false, false, false, false, false, false, false, false, false, false] rfl rfl (any_of HT_.out (by kernel_rfl)) (fun _ _ _ h => h) (Or.inl ⟨by rfl, ?_⟩) ?_ ?_
                                    rotate_left
                                    · intro w'
                                      go_simp
                                      with_reducible rfl
                                    rotate_left
                                    · simp only [Act.put, List.setIfInBounds_toArray, List.set_cons_zero, List.set_cons_succ, i64_w, i32_w]
                                      rfl
                                    refine pure_ (i := 3) (N := some 89) (v := ?_) (a' := ?_) #[true, true, true, true, false, false, false, false, false, false, false, false, false, false, false, false, false, false, false, false] rfl rfl (any_of HT_.out (by kernel_rfl)) (fun _ _ _ h => h) (Or.inl ⟨by rfl, ?_⟩) ?_ ?_
                                    rotate_left
                                    · intro w'
                                      go_simp
                                      with_reducible rfl
                                    rotate_left
                                    · simp only [Act.put, List.setIfInBounds_toArray, List.set_cons_zero, List.set_cons_succ, i64_w, i32_w]
                                      rfl
                                    refine pure_ (i := 4) (N := some 90) (v := ?_) (a' := ?_) #[true, true, true, true, true, false, false, false, false, false, false, false, false, false, false, false, false, false, false, false] rfl rfl (any_of HT_.out (by kernel_rfl)) (fun _ _ _ h => h) (Or.inl ⟨by rfl, ?_⟩) ?_ ?_
                                    rotate_left
                                    · intro w'
                                      go_simp
                                      with_reducible rfl
                                    rotate_left
                                    · simp only [Act.put, List.setIfInBounds_toArray, List.set_cons_zero, List.set_cons_succ, i64_w, i32_w]
                                      rfl
                                    refine pure_ (i := 6) (N := some 92) (v := ?_) (a' := ?_) #[true, true, true, true, true, false, true, false, false, false, false, false, false, false, false, false, false, false, false, false] rfl rfl (any_of HT_.out (by kernel_rfl)) (fun _ _ _ h => h) (Or.inl ⟨by rfl, ?_⟩) ?_ ?_
                                    rotate_left
                                    · intro w'
                                      go_simp
                                      with_reducible rfl
                                    rotate_left
                                    · simp only [Act.put, List.setIfInBounds_toArray, List.set_cons_zero, List.set_cons_succ, i64_w, i32_w]
                                      rfl
                                    refine pure_ (i := 7) (N := some 93) (v := ?_) (a' := ?_) #[true, true, true, true, true, false, true, true, false, false, false, false, false, false, false, false, false, false, false, false] rfl rfl (any_of HT_.out (by kernel_rfl)) (fun _ _ _ h => h) (Or.inl ⟨by rfl, ?_⟩) ?_ ?_
                                    rotate_left
                                    · intro w'
                                      go_simp
                                      with_reducible rfl
                                    rotate_left
                                    · simp only [Act.put, List.setIfInBounds_toArray, List.set_cons_zero, List.set_cons_succ, i64_w, i32_w]
                                      rfl
                                    refine pure_ (i := 8) (N := some 94) (v := ?_) (a' := ?_) #[true, true, true, true, true, false, true, true, true, false, false, false, false, false, false, false, false, false, false, false] rfl rfl (any_of HT_.out (by kernel_rfl)) (fun _ _ _ h => h) (Or.inl ⟨by rfl, ?_⟩) ?_ ?_
                                    rotate_left
                                    · intro w'
                                      go_simp
                                      with_reducible rfl
                                    rotate_left
                                    · simp only [Act.put, List.setIfInBounds_toArray, List.set_cons_zero, List.set_cons_succ, i64_w, i32_w]
                                      rfl
                                    refine pure_ (i := 9) (N := some 95) (v := ?_) (a' := ?_) #[true, true, true, true, true, false, true, true, true, true, false, false, false, false, false, false, false, false, false, false] rfl rfl (any_of HT_.out (by kernel_rfl)) (fun _ _ _ h => h) (Or.inl ⟨by rfl, ?_⟩) ?_ ?_
                                    rotate_left
                                    · intro w'
                                      go_simp
                                      with_reducible rfl
                                    rotate_left
                                    · simp only [Act.put, List.setIfInBounds_toArray, List.set_cons_zero, List.set_cons_succ, i64_w, i32_w]
                                      rfl
                                    refine pure_ (i := 11) (N := some 97) (v := ?_) (a' := ?_) #[true, true, true, true, true, false, true, true, true, true, false, true, false, false, false, false, false, false, false, false] rfl rfl (any_of HT_.out (by kernel_rfl)) (fun _ _ _ h => h) (Or.inl ⟨by rfl, ?_⟩) ?_ ?_
                                    rotate_left
                                    · intro w'
                                      go_simp
                                      with_reducible rfl
                                    rotate_left
                                    · simp only [Act.put, List.setIfInBounds_toArray, List.set_cons_zero, List.set_cons_succ, i64_w, i32_w]
                                      rfl
                                    refine pure_ (i := 12) (N := some 98) (v := ?_) (a' := ?_) #[true, true, true, true, true, false, true, true, true, true, false, true, true, false, false, false, false, false, false, false] rfl rfl (any_of HT_.out (by kernel_rfl)) (fun _ _ _ h => h) (Or.inl ⟨by rfl, ?_⟩) ?_ ?_
                                    rotate_left
                                    · intro w'
                                      go_simp
                                      with_reducible rfl
                                    rotate_left
                                    · simp only [Act.put, List.setIfInBounds_toArray, List.set_cons_zero, List.set_cons_succ, i64_w, i32_w]
                                      rfl
                                    refine pure_ (i := 13) (N := some 99) (v := ?_) (a' := ?_) #[true, true, true, true, true, false, true, true, true, true, false, true, true, true, false, false, false, false, false, false] rfl rfl (any_of HT_.out (by kernel_rfl)) (fun _ _ _ h => h) (Or.inl ⟨by rfl, ?_⟩) ?_ ?_
                                    rotate_left
                                    · intro w'
                                      go_simp
                                      with_reducible rfl
                                    rotate_left
                                    · simp only [Act.put, List.setIfInBounds_toArray, List.set_cons_zero, List.set_cons_succ, i64_w, i32_w]
                                      rfl
                                    refine pure_ (i := 14) (N := some 100) (v := ?_) (a' := ?_) #[true, true, true, true, true, false, true, true, true, true, false, true, true, true, true, false, false, false, false, false] rfl rfl (any_of HT_.out (by kernel_rfl)) (fun _ _ _ h => h) (Or.inl ⟨by rfl, ?_⟩) ?_ ?_
                                    rotate_left
                                    · intro w'
                                      go_simp
                                      with_reducible rfl
                                    rotate_left
                                    · simp only [Act.put, List.setIfInBounds_toArray, List.set_cons_zero, List.set_cons_succ, i64_w, i32_w]
                                      rfl
                                    refine pure_ (i := 15) (N := some 101) (v := ?_) (a' := ?_) #[true, true, true, true, true, false, true, true, true, true, false, true, true, true, true, true, false, false, false, false] rfl rfl (any_of HT_.out (by kernel_rfl)) (fun _ _ _ h => h) (Or.inl ⟨by rfl, ?_⟩) ?_ ?_
                                    rotate_left
                                    · intro w'
                                      go_simp
                                      with_reducible rfl
                                    rotate_left
                                    · simp only [Act.put, List.setIfInBounds_toArray, List.set_cons_zero, List.set_cons_succ, i64_w, i32_w]
                                      rfl
                                    refine pure_ (i := 19) (N := some 105) (v := ?_) (a' := ?_) #[true, true, true, true, true, false, true, true, true, true, false, true, true, true, true, true, false, false, false, true] rfl rfl (any_of HT_.out (by kernel_rfl)) (fun _ _ _ h => h) (Or.inl ⟨by rfl, ?_⟩) ?_ ?_
                                    rotate_left
                                    · intro w'
                                      go_simp
                                      with_reducible rfl
                                    rotate_left
                                    · simp only [Act.put, List.setIfInBounds_toArray, List.set_cons_zero, List.set_cons_succ, i64_w, i32_w]
                                      rfl
                                    refine take_ (i := 5) (N := some 91) (v := ?_) (a' := ?_) #[true, true, true, true, true, true, true, true, true, true, false, true, true, true, true, true, false, false, false, true] rfl rfl (take_ofW HT_.out HW_.out (by kernel_rfl)) (fun _ _ _ h => h) (Or.inl ⟨by rfl, ?_⟩) hHeld ?_ ?_
                                    rotate_left
                                    · rintro w' ⟨s0, s1, s2, s3, s4, s5, s6, s7, s8, s9, s10, s11, s12, s13, s14, s15, s16, s17⟩
                                      go_simp
                                      with_reducible rfl
                                    rotate_left
                                    · simp only [Act.put, List.setIfInBounds_toArray, List.set_cons_zero, List.set_cons_succ, i64_w, i32_w]
                                      rfl
                                    refine take_ (i := 10) (N := some 96) (v := ?_) (a' := ?_) #[true, true, true, true, true, true, true, true, true, true, true, true, true, true, true, true, false, false, false, true] rfl rfl (take_ofW HT_.out HW_.out (by kernel_rfl)) (fun _ _ _ h => h) (Or.inl ⟨by rfl, ?_⟩) hHeld ?_ ?_
                                    rotate_left
                                    · rintro w' ⟨s0, s1, s2, s3, s4, s5, s6, s7, s8, s9, s10, s11, s12, s13, s14, s15, s16, s17⟩
                                      go_simp
                                      with_reducible rfl
                                    rotate_left
                                    · simp only [Act.put, List.setIfInBounds_toArray, List.set_cons_zero, List.set_cons_succ, i64_w, i32_w]
                                      rfl
                                    refine take_ (i := 16) (N := some 102) (v := ?_) (a' := ?_) #[true, true, true, true, true, true, true, true, true, true, true, true, true, true, true, true, true, false, false, true] rfl rfl (take_ofW HT_.out HW_.out (by kernel_rfl)) (fun _ _ _ h => h) (Or.inl ⟨by rfl, ?_⟩) hHeld ?_ ?_
                                    rotate_left
                                    · rintro w' ⟨s0, s1, s2, s3, s4, s5, s6, s7, s8, s9, s10, s11, s12, s13, s14, s15, s16, s17⟩
                                      go_simp
                                      with_reducible rfl
                                    rotate_left
                                    · simp only [Act.put, List.setIfInBounds_toArray, List.set_cons_zero, List.set_cons_succ, i64_w, i32_w]
                                      rfl
                                    refine one_ (i := 17) (N := some 103) #[true, true, true, true, true, true, true, true, true, true, true, true, true, true, true, true, true, true, false, true] rfl rfl (one_of HT_.out (by kernel_rfl)) (by decide) (fun K hK => ?_)
                                    refine Kd.R_lit_step Kd.string _ 9 ?hg (N := 103) ?hd (xs := ([a2, (rd_T24 l0 ji19).f4, (rd_T24 l0 ji19).f5, (rd_T24 l0 (ji49)).f4] : List ByteArray)) (inner := [.string a2, .string ((rd_T24 l0 ji19).f4), .string ((rd_T24 l0 ji19).f5), .string ((rd_T24 l0 (ji49)).f4)]) (ok := fun _ => True) (okp := fun _ => True) ?hr ?hp (fun _ hk => hk) trivial (Below.refl _ _) (Nat.le_refl _) (by simp) ?_; (case hd => rfl); (case hg => rfl); (case hr => first | (go_simp; done) | (go_simp; rfl)); (case hp => exact (Reps.one (show Kd.M Kd.string _ _ _ a2 [.string a2] from rfl) (Reps.one (show Kd.M Kd.string _ _ _ ((rd_T24 l0 ji19).f4) [.string ((rd_T24 l0 ji19).f4)] from rfl) (Reps.one (show Kd.M Kd.string _ _ _ ((rd_T24 l0 ji19).f5) [.string ((rd_T24 l0 ji19).f5)] from rfl) (Reps.one (show Kd.M Kd.string _ _ _ ((rd_T24 l0 (ji49)).f4) [.string ((rd_T24 l0 (ji49)).f4)] from rfl) (Reps.none _ _))))))
                                    intro v369 w53 ho54 hb hg_ hnew_
                                    clear hg_ hnew_
                                    (first | rw [← Ny368.out] at ho54 | (simp only [Int.reduceToNat] at ho54; rw [← Ny368.out] at ho54))
                                    have n0_ := Aside0.mk (Kd.R_below (by (with_reducible repeat (first | apply Kd.R_alloc | apply Kd.R_drewN | apply Kd.R_drew)); exact HO_13.out) hb)
                                    have n1_ := Aside0.mk (Kd.R_lower ho54 (below_size (by repeat (first | (with_reducible first | exact HB.out | apply below_alloc | apply pw_below_drewN | apply below_drew1) | exact HB.out))))
                                    have n2_ := Aside0.mk (below_step (by repeat (first | (with_reducible first | exact HB.out | apply below_alloc | apply pw_below_drewN | apply below_drew1) | exact HB.out)) hb)
                                    clear HO_13
                                    clear HB
                                    have HO_13 := n0_
                                    have HO370 := n1_
                                    have HB := n2_
                                    clear n0_ n1_ n2_
                                    clear hb ho54
                                    obtain ⟨Ao55, co55, eo55⟩ := Kd.R_slice HO370.out
                                    (first | subst eo55 | (injection eo55 with f1_ f2_ f3_; have f4_ := f1_.symm; have f5_ := f3_.symm; clear f1_ f2_ f3_; subst f4_; subst f5_))
                                    refine hK.out _ _ ⟨((HB.out.cell (World.block_lt_of_cell? w _ hw365_0)).trans hw365_0), ((HB.out.cell (World.block_lt_of_cell? w _ hw365_1)).trans hw365_1), ((HB.out.cell (World.block_lt_of_cell? w _ hw365_2)).trans hw365_2), ((HB.out.cell (World.block_lt_of_cell? w _ hw365_3)).trans hw365_3), ((HB.out.cell (World.block_lt_of_cell? w _ hw365_4)).trans hw365_4), ((HB.out.cell (World.block_lt_of_cell? w _ hw365_5)).trans hw365_5), ((HB.out.cell (World.block_lt_of_cell? w _ hw366_0)).trans hw366_0), ((HB.out.cell (World.block_lt_of_cell? w _ hw366_1)).trans hw366_1), ((HB.out.cell (World.block_lt_of_cell? w _ hw366_2)).trans hw366_2), ((HB.out.cell (World.block_lt_of_cell? w _ hw366_3)).trans hw366_3), ((HB.out.cell (World.block_lt_of_cell? w _ hw366_4)).trans hw366_4), ((HB.out.cell (World.block_lt_of_cell? w _ hw366_5)).trans hw366_5), ((HB.out.cell (World.block_lt_of_cell? w _ hw367_0)).trans hw367_0), ((HB.out.cell (World.block_lt_of_cell? w _ hw367_1)).trans hw367_1), ((HB.out.cell (World.block_lt_of_cell? w _ hw367_2)).trans hw367_2), ((HB.out.cell (World.block_lt_of_cell? w _ hw367_3)).trans hw367_3), ((HB.out.cell (World.block_lt_of_cell? w _ hw367_4)).trans hw367_4), ((HB.out.cell (World.block_lt_of_cell? w _ hw367_5)).trans hw367_5)⟩ (fun hHeld => ?_)
                                    clear hK K
                                    refine norm_ (a' := ?_) ?_ ?_
                                    rotate_left
                                    · show Act.put _ (some 103) _ = _
                                      simp only [Act.put, List.setIfInBounds_toArray, List.set_cons_zero, List.set_cons_succ, i64_w, i32_w]
                                      rfl
                                    refine pure_ (i := 18) (N := some 104) (v := ?_) (a' := ?_) #[true, true, true, true, true, true, true, true, true, true, true, true, true, true, true, true, true, true, true, true] rfl rfl (any_of HT_.out (by kernel_rfl)) (fun _ _ _ h => h) (Or.inl ⟨by rfl, ?_⟩) ?_ ?_
                                    rotate_left
                                    · intro w'
                                      go_simp
                                      with_reducible rfl
                                    rotate_left
                                    · simp only [Act.put, List.setIfInBounds_toArray, List.set_cons_zero, List.set_cons_succ, i64_w, i32_w]
                                      rfl
                                    refine done_ (done_of HT_.out (by kernel_rfl)) ?_
                                    try go_wp2
                                    go_loopg [11, 105] kj27 (fun kq v11 v105 w' => ∃ (x11_3 : Bool) (x105_3 : Int), v11 = .bool x11_3 ∧ v105 = .int .i64 x105_3 ∧ Aside0 (cohousinglaw33_LedgerOrder.l0 kq l0 a3 a4 x11_3 y354 y368 (y368.length : Int) x105_3 = some r) ∧ Aside0 (kq ≤ kj27) ∧ Aside0 (Kd.R k24 24 w' w.heap.size (fun _ => True) (.slice (some ⟨go23, 0, none⟩) y354.length co23) y354) ∧ Aside0 (Kd.R Kd.string 9 w' w.heap.size (fun _ => True) (.slice Ao55 y368.length co55) y368) ∧ Aside0 (Below w.heap.size w w'))
                                    case atStart => exact ⟨(x11_27), (0), (by first | rfl | (simp; done) | (simp [*]; done)), (by first | rfl | (simp; done) | (simp [*]; done)), H', ⟨Nat.le_refl _⟩, ⟨by (try simp only [hl13_27]); (with_reducible repeat (first | apply Kd.R_alloc | apply Kd.R_drewN | apply Kd.R_drew)); exact HO_13.out⟩, ⟨by (try simp only [hl13_27]); (with_reducible repeat (first | apply Kd.R_alloc | apply Kd.R_drewN | apply Kd.R_drew)); exact HO370.out⟩, ⟨by repeat (first | (with_reducible first | exact HB.out | apply below_alloc | apply pw_below_drewN | apply below_drew1) | exact HB.out)⟩⟩
                                    case round =>
                                      clear H'
                                      try clear c1
                                      try clear c2
                                      try clear p2
                                      try clear q2
                                      try clear hx2
                                      try clear c3
                                      try clear p3
                                      try clear q3
                                      try clear hx3
                                      try clear c4
                                      try clear c5
                                      try clear p6
                                      try clear c8
                                      try clear c10
                                      try clear c11
                                      try clear c13
                                      try clear c14
                                      try clear c14b0
                                      try clear c14b1
                                      try clear c15
                                      try clear c17
                                      try clear c17b0
                                      try clear c18
                                      try clear c18b0
                                      try clear c20
                                      try clear c20b0
                                      try clear c21
                                      try clear c21b0
                                      try clear c22
                                      try clear c22b0
                                      try clear c23
                                      try clear p23
                                      try clear q23
                                      try clear hx23
                                      try clear hf23
                                      try clear c24
                                      try clear c24b0
                                      try clear c25
                                      try clear p25
                                      try clear q25
                                      try clear hx25
                                      try clear hf25
                                      try clear c33
                                      try clear c34
                                      try clear p35
                                      try clear q35
                                      try clear hx35
                                      try clear p36
                                      try clear q36
                                      try clear hx36
                                      try clear c37
                                      try clear c38
                                      try clear c38b0
                                      try clear c38b1
                                      try clear c40
                                      try clear c47
                                      try clear c47b0
                                      try clear c48
                                      try clear c48b0
                                      try clear c50
                                      try clear c50b0
                                      try clear c51
                                      try clear c51b0
                                      try clear hx23_0
                                      try clear hx23_1
                                      try clear hx23_2
                                      try clear hx23_3
                                      try clear hx23_4
                                      try clear hx23_5
                                      try clear hx25_0
                                      try clear hx25_1
                                      try clear hx25_2
                                      try clear hx25_3
                                      try clear hx25_4
                                      try clear hx25_5
                                      try clear hx351_0
                                      try clear hx351_1
                                      try clear hx351_2
                                      try clear hx351_3
                                      try clear hx351_4
                                      try clear hx351_5
                                      try clear hx352_0
                                      try clear hx352_1
                                      try clear hx352_2
                                      try clear hx352_3
                                      try clear hx352_4
                                      try clear hx352_5
                                      try clear hx365_0
                                      try clear hx365_1
                                      try clear hx365_2
                                      try clear hx365_3
                                      try clear hx365_4
                                      try clear hx365_5
                                      try clear hx366_0
                                      try clear hx366_1
                                      try clear hx366_2
                                      try clear hx366_3
                                      try clear hx366_4
                                      try clear hx366_5
                                      try clear hx367_0
                                      try clear hx367_1
                                      try clear hx367_2
                                      try clear hx367_3
                                      try clear hx367_4
                                      try clear hx367_5
                                      try clear p2
                                      try clear p23
                                      try clear p25
                                      try clear p3
                                      try clear p35
                                      try clear p351
                                      try clear p352
                                      try clear p365
                                      try clear p366
                                      try clear p367
                                      try clear p6
                                      try clear q2
                                      try clear q23
                                      try clear q25
                                      try clear q3
                                      try clear q35
                                      try clear q351
                                      try clear q352
                                      try clear q365
                                      try clear q366
                                      try clear q367
                                      obtain ⟨x11_3, x105_3, rfl, rfl, HA, HK3, HO_13, HO_103, HB⟩ := hrel
                                      cases gk with
                                      | zero => exact absurd HA.out (by simp [cohousinglaw33_LedgerOrder.l0])
                                      | succ k3 =>
                                        have H := HA.out
                                        clear HA
                                        simp only [cohousinglaw33_LedgerOrder.l0] at H
                                        by_cases c56 : x105_3 < (y368.length : Int)
                                        · rw [if_pos c56] at H
                                          have c56b0 : decide (x105_3 < (y368.length : Int)) = true := decide_eq_true c56
                                          clear c56
                                          by_cases c57 : 0 ≤ x105_3
                                          · rw [if_pos c57] at H
                                            have c57b0 : decide (0 ≤ x105_3) = true := decide_eq_true c57
                                            clear c57
                                            by_cases c58 : x105_3 < (y368.length : Int)
                                            · rw [if_pos c58] at H
                                              have c58b0 : decide (x105_3 < (y368.length : Int)) = true := decide_eq_true c58
                                              clear c58
                                              replace H := Option.bind_eq_some_iff.mp H
                                              obtain ⟨⟨t372, t373⟩, A590, H⟩ := H
                                              replace H : ((ledger_Balance.f y354 (rdOf ByteArray.empty y368 x105_3) a3 a4).bind fun bt374 => (if x11_3 = true then (if t372 = bt374.1 then (cohousinglaw33_LedgerOrder.l0 k3 l0 a3 a4 (t373 == bt374.2) y354 y368 (y368.length : Int) (wrap64 (x105_3 + 1))) else (cohousinglaw33_LedgerOrder.l0 k3 l0 a3 a4 false y354 y368 (y368.length : Int) (wrap64 (x105_3 + 1)))) else (cohousinglaw33_LedgerOrder.l0 k3 l0 a3 a4 false y354 y368 (y368.length : Int) (wrap64 (x105_3 + 1))))) = some r := H
                                              have A59 := Aside0.mk A590
                                              clear A590
                                              replace H := Option.bind_eq_some_iff.mp H
                                              obtain ⟨⟨t374, t375⟩, A600, H⟩ := H
                                              replace H : (if x11_3 = true then (if t372 = t374 then (cohousinglaw33_LedgerOrder.l0 k3 l0 a3 a4 (t373 == t375) y354 y368 (y368.length : Int) (wrap64 (x105_3 + 1))) else (cohousinglaw33_LedgerOrder.l0 k3 l0 a3 a4 false y354 y368 (y368.length : Int) (wrap64 (x105_3 + 1)))) else (cohousinglaw33_LedgerOrder.l0 k3 l0 a3 a4 false y354 y368 (y368.length : Int) (wrap64 (x105_3 + 1)))) = some r := H
                                              have A60 := Aside0.mk A600
                                              clear A600
                                              by_cases c61 : x11_3 = true
                                              · subst c61
                                                have H1 : (if t372 = t374 then (cohousinglaw33_LedgerOrder.l0 k3 l0 a3 a4 (t373 == t375) y354 y368 (y368.length : Int) (wrap64 (x105_3 + 1))) else (cohousinglaw33_LedgerOrder.l0 k3 l0 a3 a4 false y354 y368 (y368.length : Int) (wrap64 (x105_3 + 1)))) = some r := by rw [if_pos rfl] at H; exact H
                                                clear H
                                                have H := H1
                                                clear H1
                                                by_cases c62 : t372 = t374
                                                · rw [if_pos c62] at H
                                                  have c62b0 : (t372 == t374) = true := beq_iff_eq.mpr c62
                                                  have c62b1 : (t372 != t374) = false := bne_eq_false_iff_eq.mpr c62
                                                  clear c62
                                                  have H' := Aside0.mk H
                                                  clear H
                                                  have p371 : 0 ≤ (x105_3 : Int) := of_decide_eq_true (by first | (with_reducible assumption) | assumption)
                                                  have q371 : x105_3 < (y368.length : Int) := of_decide_eq_true (by first | (with_reducible assumption) | assumption)
                                                  obtain ⟨ad371, e371, hx371_0⟩ := Kd.at_string (Kd.R_reads' HO_103.out).2.2 x105_3 p371 q371
                                                  cases e371
                                                  replace p371 := eq_true p371
                                                  replace q371 := eq_true q371
                                                  go_wp2_with (first | ((with_reducible refine gate_callee (f := 18) rfl ?_); refine goesL_ (some 114) rfl rfl Try.func18 (by kernel_rfl) rfl #[.slice (some ad351) l0.length c0, .string (rdOf ByteArray.empty y368 x105_3), .int .i64 a3, .int .i64 a4] rfl (by (try simp only [List.map_toArray, List.map_cons, List.map_nil]); first | done | rfl | (simp only [List.length_drop, List.length_take]; rfl)) ?_; (with_reducible refine (ledger_Balance.calls _ _ l0 (rdOf ByteArray.empty y368 x105_3) a3 a4 t372 t373 _ ?side1 ?side2 A59.out).mono ?_); (case side1 => repeat (first | exact (Kd.C_below HR0.out HB.out) | (with_reducible refine Kd.C_alloc ?_ _) | (with_reducible refine Kd.C_drewN ?_ _) | (with_reducible refine Kd.C_drew ?_))); (case side2 => exact HC0.out); rintro e w63 ⟨rfl, hb⟩; refine ⟨_, rfl, ?_⟩; have n0_ := Aside0.mk (Kd.R_below (by (with_reducible repeat (first | apply Kd.R_alloc | apply Kd.R_drewN | apply Kd.R_drew)); exact HO_13.out) hb); have n1_ := Aside0.mk (Kd.R_below (by (with_reducible repeat (first | apply Kd.R_alloc | apply Kd.R_drewN | apply Kd.R_drew)); exact HO_103.out) hb); have n2_ := Aside0.mk (below_step (by repeat (first | (with_reducible first | exact HB.out | apply below_alloc | apply pw_below_drewN | apply below_drew1) | exact HB.out)) hb); clear HO_13; clear HO_103; clear HB; have HO_13 := n0_; have HO_103 := n1_; have HB := n2_; clear n0_ n1_ n2_; (try clear hb); (try clear hb2); (try clear hk); (try clear hi)) | ((with_reducible refine gate_callee (f := 18) rfl ?_); refine goesL_ (some 122) rfl rfl Try.func18 (by kernel_rfl) rfl #[.slice (some ⟨go23, 0, none⟩) y354.length co23, .string (rdOf ByteArray.empty y368 x105_3), .int .i64 a3, .int .i64 a4] rfl (by (try simp only [List.map_toArray, List.map_cons, List.map_nil]); first | done | rfl | (simp only [List.length_drop, List.length_take]; rfl)) ?_; (with_reducible refine (ledger_Balance.calls _ _ y354 (rdOf ByteArray.empty y368 x105_3) a3 a4 t374 t375 _ ?side1 ?side2 A60.out).mono ?_); (case side1 => repeat (first | exact (Kd.R_reads' HO_13.out).2.2 | (with_reducible refine Kd.C_alloc ?_ _) | (with_reducible refine Kd.C_drewN ?_ _) | (with_reducible refine Kd.C_drew ?_))); (case side2 => exact (Kd.R_reads' HO_13.out).2.1); rintro e w64 ⟨rfl, hb⟩; refine ⟨_, rfl, ?_⟩; have n0_ := Aside0.mk (Kd.R_below (by (with_reducible repeat (first | apply Kd.R_alloc | apply Kd.R_drewN | apply Kd.R_drew)); exact HO_13.out) hb); have n1_ := Aside0.mk (Kd.R_below (by (with_reducible repeat (first | apply Kd.R_alloc | apply Kd.R_drewN | apply Kd.R_drew)); exact HO_103.out) hb); have n2_ := Aside0.mk (below_step (by repeat (first | (with_reducible first | exact HB.out | apply below_alloc | apply pw_below_drewN | apply below_drew1) | exact HB.out)) hb); clear HO_13; clear HO_103; clear HB; have HO_13 := n0_; have HO_103 := n1_; have HB := n2_; clear n0_ n1_ n2_; (try clear hb); (try clear hb2); (try clear hk); (try clear hi)))
                                                  go_roundg k3
                                                  case measure => have := HJ6.out; have := HJ27.out; have := HK3.out; omega
                                                  case rel => exact ⟨((t373 == t375)), (wrap64 (x105_3 + 1)), (by first | rfl | (simp; done) | (simp [*]; done)), (by first | rfl | (simp; done) | (simp [*]; done)), H', ⟨by have := HJ6.out; have := HJ27.out; have := HK3.out; omega⟩, ⟨by (try simp only [hl13_27]); (with_reducible repeat (first | apply Kd.R_alloc | apply Kd.R_drewN | apply Kd.R_drew)); exact HO_13.out⟩, ⟨by (try simp only [hl13_27]); (with_reducible repeat (first | apply Kd.R_alloc | apply Kd.R_drewN | apply Kd.R_drew)); exact HO_103.out⟩, ⟨by repeat (first | (with_reducible first | exact HB.out | apply below_alloc | apply pw_below_drewN | apply below_drew1) | exact HB.out)⟩⟩
                                                · rw [if_neg c62] at H
                                                  have c62b0 : (t372 == t374) = false := beq_eq_false_iff_ne.mpr c62
                                                  have c62b1 : (t372 != t374) = true := bne_iff_ne.mpr c62
                                                  have H' := Aside0.mk H
                                                  clear H
                                                  have p371 : 0 ≤ (x105_3 : Int) := of_decide_eq_true (by first | (with_reducible assumption) | assumption)
                                                  have q371 : x105_3 < (y368.length : Int) := of_decide_eq_true (by first | (with_reducible assumption) | assumption)
                                                  obtain ⟨ad371, e371, hx371_0⟩ := Kd.at_string (Kd.R_reads' HO_103.out).2.2 x105_3 p371 q371
                                                  cases e371
                                                  replace p371 := eq_true p371
                                                  replace q371 := eq_true q371
                                                  go_wp2_with (first | ((with_reducible refine gate_callee (f := 18) rfl ?_); refine goesL_ (some 114) rfl rfl Try.func18 (by kernel_rfl) rfl #[.slice (some ad351) l0.length c0, .string (rdOf ByteArray.empty y368 x105_3), .int .i64 a3, .int .i64 a4] rfl (by (try simp only [List.map_toArray, List.map_cons, List.map_nil]); first | done | rfl | (simp only [List.length_drop, List.length_take]; rfl)) ?_; (with_reducible refine (ledger_Balance.calls _ _ l0 (rdOf ByteArray.empty y368 x105_3) a3 a4 t372 t373 _ ?side1 ?side2 A59.out).mono ?_); (case side1 => repeat (first | exact (Kd.C_below HR0.out HB.out) | (with_reducible refine Kd.C_alloc ?_ _) | (with_reducible refine Kd.C_drewN ?_ _) | (with_reducible refine Kd.C_drew ?_))); (case side2 => exact HC0.out); rintro e w65 ⟨rfl, hb⟩; refine ⟨_, rfl, ?_⟩; have n0_ := Aside0.mk (Kd.R_below (by (with_reducible repeat (first | apply Kd.R_alloc | apply Kd.R_drewN | apply Kd.R_drew)); exact HO_13.out) hb); have n1_ := Aside0.mk (Kd.R_below (by (with_reducible repeat (first | apply Kd.R_alloc | apply Kd.R_drewN | apply Kd.R_drew)); exact HO_103.out) hb); have n2_ := Aside0.mk (below_step (by repeat (first | (with_reducible first | exact HB.out | apply below_alloc | apply pw_below_drewN | apply below_drew1) | exact HB.out)) hb); clear HO_13; clear HO_103; clear HB; have HO_13 := n0_; have HO_103 := n1_; have HB := n2_; clear n0_ n1_ n2_; (try clear hb); (try clear hb2); (try clear hk); (try clear hi)) | ((with_reducible refine gate_callee (f := 18) rfl ?_); refine goesL_ (some 122) rfl rfl Try.func18 (by kernel_rfl) rfl #[.slice (some ⟨go23, 0, none⟩) y354.length co23, .string (rdOf ByteArray.empty y368 x105_3), .int .i64 a3, .int .i64 a4] rfl (by (try simp only [List.map_toArray, List.map_cons, List.map_nil]); first | done | rfl | (simp only [List.length_drop, List.length_take]; rfl)) ?_; (with_reducible refine (ledger_Balance.calls _ _ y354 (rdOf ByteArray.empty y368 x105_3) a3 a4 t374 t375 _ ?side1 ?side2 A60.out).mono ?_); (case side1 => repeat (first | exact (Kd.R_reads' HO_13.out).2.2 | (with_reducible refine Kd.C_alloc ?_ _) | (with_reducible refine Kd.C_drewN ?_ _) | (with_reducible refine Kd.C_drew ?_))); (case side2 => exact (Kd.R_reads' HO_13.out).2.1); rintro e w66 ⟨rfl, hb⟩; refine ⟨_, rfl, ?_⟩; have n0_ := Aside0.mk (Kd.R_below (by (with_reducible repeat (first | apply Kd.R_alloc | apply Kd.R_drewN | apply Kd.R_drew)); exact HO_13.out) hb); have n1_ := Aside0.mk (Kd.R_below (by (with_reducible repeat (first | apply Kd.R_alloc | apply Kd.R_drewN | apply Kd.R_drew)); exact HO_103.out) hb); have n2_ := Aside0.mk (below_step (by repeat (first | (with_reducible first | exact HB.out | apply below_alloc | apply pw_below_drewN | apply below_drew1) | exact HB.out)) hb); clear HO_13; clear HO_103; clear HB; have HO_13 := n0_; have HO_103 := n1_; have HB := n2_; clear n0_ n1_ n2_; (try clear hb); (try clear hb2); (try clear hk); (try clear hi)))
                                                  go_roundg k3
                                                  case measure => have := HJ6.out; have := HJ27.out; have := HK3.out; omega
                                                  case rel => exact ⟨(false), (wrap64 (x105_3 + 1)), (by first | rfl | (simp; done) | (simp [*]; done)), (by first | rfl | (simp; done) | (simp [*]; done)), H', ⟨by have := HJ6.out; have := HJ27.out; have := HK3.out; omega⟩, ⟨by (try simp only [hl13_27]); (with_reducible repeat (first | apply Kd.R_alloc | apply Kd.R_drewN | apply Kd.R_drew)); exact HO_13.out⟩, ⟨by (try simp only [hl13_27]); (with_reducible repeat (first | apply Kd.R_alloc | apply Kd.R_drewN | apply Kd.R_drew)); exact HO_103.out⟩, ⟨by repeat (first | (with_reducible first | exact HB.out | apply below_alloc | apply pw_below_drewN | apply below_drew1) | exact HB.out)⟩⟩
                                              · replace c61 := Bool.eq_false_iff.mpr c61
                                                subst c61
                                                have H1 : (cohousinglaw33_LedgerOrder.l0 k3 l0 a3 a4 false y354 y368 (y368.length : Int) (wrap64 (x105_3 + 1))) = some r := by rw [if_neg (show ¬ (false = true) by decide)] at H; exact H
                                                clear H
                                                have H := H1
                                                clear H1
                                                have H' := Aside0.mk H
                                                clear H
                                                have p371 : 0 ≤ (x105_3 : Int) := of_decide_eq_true (by first | (with_reducible assumption) | assumption)
                                                have q371 : x105_3 < (y368.length : Int) := of_decide_eq_true (by first | (with_reducible assumption) | assumption)
                                                obtain ⟨ad371, e371, hx371_0⟩ := Kd.at_string (Kd.R_reads' HO_103.out).2.2 x105_3 p371 q371
                                                cases e371
                                                replace p371 := eq_true p371
                                                replace q371 := eq_true q371
                                                go_wp2_with (first | ((with_reducible refine gate_callee (f := 18) rfl ?_); refine goesL_ (some 114) rfl rfl Try.func18 (by kernel_rfl) rfl #[.slice (some ad351) l0.length c0, .string (rdOf ByteArray.empty y368 x105_3), .int .i64 a3, .int .i64 a4] rfl (by (try simp only [List.map_toArray, List.map_cons, List.map_nil]); first | done | rfl | (simp only [List.length_drop, List.length_take]; rfl)) ?_; (with_reducible refine (ledger_Balance.calls _ _ l0 (rdOf ByteArray.empty y368 x105_3) a3 a4 t372 t373 _ ?side1 ?side2 A59.out).mono ?_); (case side1 => repeat (first | exact (Kd.C_below HR0.out HB.out) | (with_reducible refine Kd.C_alloc ?_ _) | (with_reducible refine Kd.C_drewN ?_ _) | (with_reducible refine Kd.C_drew ?_))); (case side2 => exact HC0.out); rintro e w67 ⟨rfl, hb⟩; refine ⟨_, rfl, ?_⟩; have n0_ := Aside0.mk (Kd.R_below (by (with_reducible repeat (first | apply Kd.R_alloc | apply Kd.R_drewN | apply Kd.R_drew)); exact HO_13.out) hb); have n1_ := Aside0.mk (Kd.R_below (by (with_reducible repeat (first | apply Kd.R_alloc | apply Kd.R_drewN | apply Kd.R_drew)); exact HO_103.out) hb); have n2_ := Aside0.mk (below_step (by repeat (first | (with_reducible first | exact HB.out | apply below_alloc | apply pw_below_drewN | apply below_drew1) | exact HB.out)) hb); clear HO_13; clear HO_103; clear HB; have HO_13 := n0_; have HO_103 := n1_; have HB := n2_; clear n0_ n1_ n2_; (try clear hb); (try clear hb2); (try clear hk); (try clear hi)) | ((with_reducible refine gate_callee (f := 18) rfl ?_); refine goesL_ (some 122) rfl rfl Try.func18 (by kernel_rfl) rfl #[.slice (some ⟨go23, 0, none⟩) y354.length co23, .string (rdOf ByteArray.empty y368 x105_3), .int .i64 a3, .int .i64 a4] rfl (by (try simp only [List.map_toArray, List.map_cons, List.map_nil]); first | done | rfl | (simp only [List.length_drop, List.length_take]; rfl)) ?_; (with_reducible refine (ledger_Balance.calls _ _ y354 (rdOf ByteArray.empty y368 x105_3) a3 a4 t374 t375 _ ?side1 ?side2 A60.out).mono ?_); (case side1 => repeat (first | exact (Kd.R_reads' HO_13.out).2.2 | (with_reducible refine Kd.C_alloc ?_ _) | (with_reducible refine Kd.C_drewN ?_ _) | (with_reducible refine Kd.C_drew ?_))); (case side2 => exact (Kd.R_reads' HO_13.out).2.1); rintro e w68 ⟨rfl, hb⟩; refine ⟨_, rfl, ?_⟩; have n0_ := Aside0.mk (Kd.R_below (by (with_reducible repeat (first | apply Kd.R_alloc | apply Kd.R_drewN | apply Kd.R_drew)); exact HO_13.out) hb); have n1_ := Aside0.mk (Kd.R_below (by (with_reducible repeat (first | apply Kd.R_alloc | apply Kd.R_drewN | apply Kd.R_drew)); exact HO_103.out) hb); have n2_ := Aside0.mk (below_step (by repeat (first | (with_reducible first | exact HB.out | apply below_alloc | apply pw_below_drewN | apply below_drew1) | exact HB.out)) hb); clear HO_13; clear HO_103; clear HB; have HO_13 := n0_; have HO_103 := n1_; have HB := n2_; clear n0_ n1_ n2_; (try clear hb); (try clear hb2); (try clear hk); (try clear hi)))
                                                go_roundg k3
                                                case measure => have := HJ6.out; have := HJ27.out; have := HK3.out; omega
                                                case rel => exact ⟨(false), (wrap64 (x105_3 + 1)), (by first | rfl | (simp; done) | (simp [*]; done)), (by first | rfl | (simp; done) | (simp [*]; done)), H', ⟨by have := HJ6.out; have := HJ27.out; have := HK3.out; omega⟩, ⟨by (try simp only [hl13_27]); (with_reducible repeat (first | apply Kd.R_alloc | apply Kd.R_drewN | apply Kd.R_drew)); exact HO_13.out⟩, ⟨by (try simp only [hl13_27]); (with_reducible repeat (first | apply Kd.R_alloc | apply Kd.R_drewN | apply Kd.R_drew)); exact HO_103.out⟩, ⟨by repeat (first | (with_reducible first | exact HB.out | apply below_alloc | apply pw_below_drewN | apply below_drew1) | exact HB.out)⟩⟩
                                            · rw [if_neg c58] at H
                                              exact absurd H (by simp)
                                          · rw [if_neg c57] at H
                                            exact absurd H (by simp)
                                        · rw [if_neg c56] at H
                                          have c56b0 : decide (x105_3 < (y368.length : Int)) = false := decide_eq_false c56
                                          clear c56
                                          obtain rfl := Option.some.inj H
                                          go_wp2
                                          go_ret
                                          exact ⟨by first | rfl | (simp [errW_none, errW_some] <;> rfl) | (simp only [← hji16, ← hji19, ← hji49]; first | rfl | (simp [errW_none, errW_some] <;> rfl)) | (simp [*, errW_none, errW_some] <;> rfl), by repeat (first | (with_reducible first | exact HB.out | apply below_alloc | apply pw_below_drewN | apply below_drew1) | exact HB.out)⟩
                                  · rw [if_neg c51] at H
                                    exact absurd H (by simp)
                                · rw [if_neg c50] at H
                                  exact absurd H (by simp)
                              · rw [if_neg c48] at H
                                exact absurd H (by simp)
                            · rw [if_neg c47] at H
                              exact absurd H (by simp)
                      · rw [if_neg c24] at H
                        exact absurd H (by simp)
                    · rw [if_neg c22] at H
                      exact absurd H (by simp)
                  · rw [if_neg c21] at H
                    exact absurd H (by simp)
                · rw [if_neg c20] at H
                  exact absurd H (by simp)
              · rw [if_neg c18] at H
                exact absurd H (by simp)
            · rw [if_neg c17] at H
              exact absurd H (by simp)
          · rw [if_neg c15] at H
            exact absurd H (by simp)

end Go.Proofs.Ytnheelncgpgkiaa.P
