/- What a law computes, and that it computes it: its Lean form and its contract, as the kit's print.py wrote them for this seat; the contract's conditions stand in its statement. -/
import Derived.Test.YtfkeelccnomjkaaDoorPRA
import Derived.Test.YtfkeelccnomjkaaDoorGSum
import Derived.Test.YtfkeelccnomjkaaDoorGDraw
import Derived.Test.YtfkeelccnomjkaaDoorGHead
namespace Go.Proofs.YtfkeelccnomjkaaDoor.P
open Go.RowKit Go.Proofs.YtfkeelccnomjkaaDoorW.PrintWords Go.Proofs.YtfkeelccnomjkaaDoorW.PrintLast Go.Proofs.YtfkeelccnomjkaaDoorW.PrintMore
attribute [local go_sem] max2_int min2_int max_two min_two max_three min_three max_four min_four   -- for this text's walks alone
set_option linter.unusedVariables false
set_option linter.unusedSimpArgs false

/-! ### cohousinglaw22_LotteryRefusals: function 8 -/
mutual
def cohousinglaw22_LotteryRefusals.j0 : Nat → List (S31) → Int → List (S23) → List (S23) → Bool → Bool → Option (Bool)
  | 0, _, _, _, _, _, _ => none
  | k + 1, x0, x1, x2, x3, x9, x41 => if x41 = true then (some x9) else ((lottery_Draw.f x0 x1 x2).bind fun bt408 => ((lottery_Draw.f x0 x1 x3).bind fun bt413 => (if bt408.2.2 = 0 then (cohousinglaw22_LotteryRefusals.j1 k x0 x2 x3 x9 bt408.1 bt408.2.1 bt413.1 bt413.2.1 (bt413.2.2 != 0)) else (cohousinglaw22_LotteryRefusals.j1 k x0 x2 x3 x9 bt408.1 bt408.2.1 bt413.1 bt413.2.1 true))))
def cohousinglaw22_LotteryRefusals.j1 : Nat → List (S31) → List (S23) → List (S23) → Bool → Int → List Int → Int → List Int → Bool → Option (Bool)
  | 0, _, _, _, _, _, _, _, _, _ => none
  | k + 1, x0, x2, x3, x9, x10, x11, x13, x14, x64 => if x64 = true then (some x9) else (cohousinglaw22_LotteryRefusals.l0 k x0 x2 x3 x9 x10 x11 x13 x14 1)
def cohousinglaw22_LotteryRefusals.l0 : Nat → List (S31) → List (S23) → List (S23) → Bool → Int → List Int → Int → List Int → Int → Option (Bool)
  | 0, _, _, _, _, _, _, _, _, _ => none
  | k + 1, x0, x2, x3, x9, x10, x11, x13, x14, x16 => if x16 ≤ (x0.length : Int) then (cohousinglaw22_LotteryRefusals.l1 k x0 x2 x3 x9 x10 x11 x13 x14 x16 false false false x2 (x2.length : Int) 0) else (if x9 = true then (some (x10 == x13)) else (some false))
def cohousinglaw22_LotteryRefusals.l1 : Nat → List (S31) → List (S23) → List (S23) → Bool → Int → List Int → Int → List Int → Int → Bool → Bool → Bool → List (S23) → Int → Int → Option (Bool)
  | 0, _, _, _, _, _, _, _, _, _, _, _, _, _, _, _ => none
  | k + 1, x0, x2, x3, x9, x10, x11, x13, x14, x16, x17, x18, x19, x72, x73, x74 => if x74 < x73 then (if 0 ≤ x74 then (if x74 < (x72.length : Int) then (if x17 = true then (cohousinglaw22_LotteryRefusals.l1 k x0 x2 x3 x9 x10 x11 x13 x14 x16 true x18 x19 x72 x73 (wrap64 (x74 + 1))) else (cohousinglaw22_LotteryRefusals.l1 k x0 x2 x3 x9 x10 x11 x13 x14 x16 (((rd_T23 x72 x74).f0) == x16) x18 x19 x72 x73 (wrap64 (x74 + 1)))) else (none)) else (none)) else (cohousinglaw22_LotteryRefusals.l2 k x0 x2 x3 x9 x10 x11 x13 x14 x16 x17 x18 x19 x3 (x3.length : Int) 0)
def cohousinglaw22_LotteryRefusals.l2 : Nat → List (S31) → List (S23) → List (S23) → Bool → Int → List Int → Int → List Int → Int → Bool → Bool → Bool → List (S23) → Int → Int → Option (Bool)
  | 0, _, _, _, _, _, _, _, _, _, _, _, _, _, _, _ => none
  | k + 1, x0, x2, x3, x9, x10, x11, x13, x14, x16, x17, x18, x19, x86, x87, x88 => if x88 < x87 then (if 0 ≤ x88 then (if x88 < (x86.length : Int) then (if x17 = true then (cohousinglaw22_LotteryRefusals.l2 k x0 x2 x3 x9 x10 x11 x13 x14 x16 true x18 x19 x86 x87 (wrap64 (x88 + 1))) else (cohousinglaw22_LotteryRefusals.l2 k x0 x2 x3 x9 x10 x11 x13 x14 x16 (((rd_T23 x86 x88).f0) == x16) x18 x19 x86 x87 (wrap64 (x88 + 1)))) else (none)) else (none)) else (cohousinglaw22_LotteryRefusals.l3 k x0 x2 x3 x9 x10 x11 x13 x14 x16 x17 x18 x19 x11 (x11.length : Int) 0)
def cohousinglaw22_LotteryRefusals.l3 : Nat → List (S31) → List (S23) → List (S23) → Bool → Int → List Int → Int → List Int → Int → Bool → Bool → Bool → List Int → Int → Int → Option (Bool)
  | 0, _, _, _, _, _, _, _, _, _, _, _, _, _, _, _ => none
  | k + 1, x0, x2, x3, x9, x10, x11, x13, x14, x16, x17, x18, x19, x100, x101, x102 => if x102 < x101 then (if 0 ≤ x102 then (if x102 < (x100.length : Int) then (if x18 = true then (cohousinglaw22_LotteryRefusals.l3 k x0 x2 x3 x9 x10 x11 x13 x14 x16 x17 true x19 x100 x101 (wrap64 (x102 + 1))) else (cohousinglaw22_LotteryRefusals.l3 k x0 x2 x3 x9 x10 x11 x13 x14 x16 x17 ((rd x100 x102) == x16) x19 x100 x101 (wrap64 (x102 + 1)))) else (none)) else (none)) else (cohousinglaw22_LotteryRefusals.l4 k x0 x2 x3 x9 x10 x11 x13 x14 x16 x17 x18 x19 x14 (x14.length : Int) 0)
def cohousinglaw22_LotteryRefusals.l4 : Nat → List (S31) → List (S23) → List (S23) → Bool → Int → List Int → Int → List Int → Int → Bool → Bool → Bool → List Int → Int → Int → Option (Bool)
  | 0, _, _, _, _, _, _, _, _, _, _, _, _, _, _, _ => none
  | k + 1, x0, x2, x3, x9, x10, x11, x13, x14, x16, x17, x18, x19, x113, x114, x115 => if x115 < x114 then (if 0 ≤ x115 then (if x115 < (x113.length : Int) then (if x19 = true then (cohousinglaw22_LotteryRefusals.l4 k x0 x2 x3 x9 x10 x11 x13 x14 x16 x17 x18 true x113 x114 (wrap64 (x115 + 1))) else (cohousinglaw22_LotteryRefusals.l4 k x0 x2 x3 x9 x10 x11 x13 x14 x16 x17 x18 ((rd x113 x115) == x16) x113 x114 (wrap64 (x115 + 1)))) else (none)) else (none)) else (if x9 = true then (if x17 = true then (cohousinglaw22_LotteryRefusals.l0 k x0 x2 x3 true x10 x11 x13 x14 (wrap64 (x16 + 1))) else (cohousinglaw22_LotteryRefusals.l0 k x0 x2 x3 (x18 == x19) x10 x11 x13 x14 (wrap64 (x16 + 1)))) else (cohousinglaw22_LotteryRefusals.l0 k x0 x2 x3 false x10 x11 x13 x14 (wrap64 (x16 + 1))))
end
def cohousinglaw22_LotteryRefusals.f (k : Nat) (l0 : List (S31)) (a1 : Int) (l2 : List (S23)) (l3 : List (S23)) : Option (Bool) := (cohousinglaw22_head.f).bind fun t407 => (if (l0.length : Int) > 16 then (cohousinglaw22_LotteryRefusals.j0 k l0 a1 l2 l3 t407 true) else (if (l2.length : Int) > 16 then (cohousinglaw22_LotteryRefusals.j0 k l0 a1 l2 l3 t407 true) else (cohousinglaw22_LotteryRefusals.j0 k l0 a1 l2 l3 t407 (decide ((l3.length : Int) > 16)))))
theorem cohousinglaw22_LotteryRefusals.mono_l : ∀ k, (∀ y0 y1 y2 y3 y4 y5, LeO (cohousinglaw22_LotteryRefusals.j0 k y0 y1 y2 y3 y4 y5) (cohousinglaw22_LotteryRefusals.j0 (k + 1) y0 y1 y2 y3 y4 y5)) ∧ (∀ y0 y1 y2 y3 y4 y5 y6 y7 y8, LeO (cohousinglaw22_LotteryRefusals.j1 k y0 y1 y2 y3 y4 y5 y6 y7 y8) (cohousinglaw22_LotteryRefusals.j1 (k + 1) y0 y1 y2 y3 y4 y5 y6 y7 y8)) ∧ (∀ y0 y1 y2 y3 y4 y5 y6 y7 y8, LeO (cohousinglaw22_LotteryRefusals.l0 k y0 y1 y2 y3 y4 y5 y6 y7 y8) (cohousinglaw22_LotteryRefusals.l0 (k + 1) y0 y1 y2 y3 y4 y5 y6 y7 y8)) ∧ (∀ y0 y1 y2 y3 y4 y5 y6 y7 y8 y9 y10 y11 y12 y13 y14, LeO (cohousinglaw22_LotteryRefusals.l1 k y0 y1 y2 y3 y4 y5 y6 y7 y8 y9 y10 y11 y12 y13 y14) (cohousinglaw22_LotteryRefusals.l1 (k + 1) y0 y1 y2 y3 y4 y5 y6 y7 y8 y9 y10 y11 y12 y13 y14)) ∧ (∀ y0 y1 y2 y3 y4 y5 y6 y7 y8 y9 y10 y11 y12 y13 y14, LeO (cohousinglaw22_LotteryRefusals.l2 k y0 y1 y2 y3 y4 y5 y6 y7 y8 y9 y10 y11 y12 y13 y14) (cohousinglaw22_LotteryRefusals.l2 (k + 1) y0 y1 y2 y3 y4 y5 y6 y7 y8 y9 y10 y11 y12 y13 y14)) ∧ (∀ y0 y1 y2 y3 y4 y5 y6 y7 y8 y9 y10 y11 y12 y13 y14, LeO (cohousinglaw22_LotteryRefusals.l3 k y0 y1 y2 y3 y4 y5 y6 y7 y8 y9 y10 y11 y12 y13 y14) (cohousinglaw22_LotteryRefusals.l3 (k + 1) y0 y1 y2 y3 y4 y5 y6 y7 y8 y9 y10 y11 y12 y13 y14)) ∧ (∀ y0 y1 y2 y3 y4 y5 y6 y7 y8 y9 y10 y11 y12 y13 y14, LeO (cohousinglaw22_LotteryRefusals.l4 k y0 y1 y2 y3 y4 y5 y6 y7 y8 y9 y10 y11 y12 y13 y14) (cohousinglaw22_LotteryRefusals.l4 (k + 1) y0 y1 y2 y3 y4 y5 y6 y7 y8 y9 y10 y11 y12 y13 y14))
  | 0 => ⟨fun _ _ _ _ _ _ r h => by simp [cohousinglaw22_LotteryRefusals.j0] at h, fun _ _ _ _ _ _ _ _ _ r h => by simp [cohousinglaw22_LotteryRefusals.j1] at h, fun _ _ _ _ _ _ _ _ _ r h => by simp [cohousinglaw22_LotteryRefusals.l0] at h, fun _ _ _ _ _ _ _ _ _ _ _ _ _ _ _ r h => by simp [cohousinglaw22_LotteryRefusals.l1] at h, fun _ _ _ _ _ _ _ _ _ _ _ _ _ _ _ r h => by simp [cohousinglaw22_LotteryRefusals.l2] at h, fun _ _ _ _ _ _ _ _ _ _ _ _ _ _ _ r h => by simp [cohousinglaw22_LotteryRefusals.l3] at h, fun _ _ _ _ _ _ _ _ _ _ _ _ _ _ _ r h => by simp [cohousinglaw22_LotteryRefusals.l4] at h⟩
  | k + 1 => by
    obtain ⟨ih0, ih1, ih2, ih3, ih4, ih5, ih6⟩ := cohousinglaw22_LotteryRefusals.mono_l k
    refine ⟨?_, ?_, ?_, ?_, ?_, ?_, ?_⟩
    · intro y0 y1 y2 y3 y4 y5
      unfold cohousinglaw22_LotteryRefusals.j0
      repeat' first
      | (with_reducible exact ih0 _ _ _ _ _ _)
      | (with_reducible exact ih1 _ _ _ _ _ _ _ _ _)
      | (with_reducible exact ih2 _ _ _ _ _ _ _ _ _)
      | (with_reducible exact ih3 _ _ _ _ _ _ _ _ _ _ _ _ _ _ _)
      | (with_reducible exact ih4 _ _ _ _ _ _ _ _ _ _ _ _ _ _ _)
      | (with_reducible exact ih5 _ _ _ _ _ _ _ _ _ _ _ _ _ _ _)
      | (with_reducible exact ih6 _ _ _ _ _ _ _ _ _ _ _ _ _ _ _)
      | (with_reducible exact LeO.refl _)
      | (with_reducible exact LeO.none _)
      | (with_reducible refine LeO.ite ?_ ?_)
      | (with_reducible refine LeO.bind ?_ (fun _ => ?_))
      | exact ih0 _ _ _ _ _ _
      | exact ih1 _ _ _ _ _ _ _ _ _
      | exact ih2 _ _ _ _ _ _ _ _ _
      | exact ih3 _ _ _ _ _ _ _ _ _ _ _ _ _ _ _
      | exact ih4 _ _ _ _ _ _ _ _ _ _ _ _ _ _ _
      | exact ih5 _ _ _ _ _ _ _ _ _ _ _ _ _ _ _
      | exact ih6 _ _ _ _ _ _ _ _ _ _ _ _ _ _ _
      | exact LeO.none _
      | refine LeO.ite ?_ ?_
      | refine LeO.bind ?_ (fun _ => ?_)
    · intro y0 y1 y2 y3 y4 y5 y6 y7 y8
      unfold cohousinglaw22_LotteryRefusals.j1
      repeat' first
      | (with_reducible exact ih0 _ _ _ _ _ _)
      | (with_reducible exact ih1 _ _ _ _ _ _ _ _ _)
      | (with_reducible exact ih2 _ _ _ _ _ _ _ _ _)
      | (with_reducible exact ih3 _ _ _ _ _ _ _ _ _ _ _ _ _ _ _)
      | (with_reducible exact ih4 _ _ _ _ _ _ _ _ _ _ _ _ _ _ _)
      | (with_reducible exact ih5 _ _ _ _ _ _ _ _ _ _ _ _ _ _ _)
      | (with_reducible exact ih6 _ _ _ _ _ _ _ _ _ _ _ _ _ _ _)
      | (with_reducible exact LeO.refl _)
      | (with_reducible exact LeO.none _)
      | (with_reducible refine LeO.ite ?_ ?_)
      | (with_reducible refine LeO.bind ?_ (fun _ => ?_))
      | exact ih0 _ _ _ _ _ _
      | exact ih1 _ _ _ _ _ _ _ _ _
      | exact ih2 _ _ _ _ _ _ _ _ _
      | exact ih3 _ _ _ _ _ _ _ _ _ _ _ _ _ _ _
      | exact ih4 _ _ _ _ _ _ _ _ _ _ _ _ _ _ _
      | exact ih5 _ _ _ _ _ _ _ _ _ _ _ _ _ _ _
      | exact ih6 _ _ _ _ _ _ _ _ _ _ _ _ _ _ _
      | exact LeO.none _
      | refine LeO.ite ?_ ?_
      | refine LeO.bind ?_ (fun _ => ?_)
    · intro y0 y1 y2 y3 y4 y5 y6 y7 y8
      unfold cohousinglaw22_LotteryRefusals.l0
      repeat' first
      | (with_reducible exact ih0 _ _ _ _ _ _)
      | (with_reducible exact ih1 _ _ _ _ _ _ _ _ _)
      | (with_reducible exact ih2 _ _ _ _ _ _ _ _ _)
      | (with_reducible exact ih3 _ _ _ _ _ _ _ _ _ _ _ _ _ _ _)
      | (with_reducible exact ih4 _ _ _ _ _ _ _ _ _ _ _ _ _ _ _)
      | (with_reducible exact ih5 _ _ _ _ _ _ _ _ _ _ _ _ _ _ _)
      | (with_reducible exact ih6 _ _ _ _ _ _ _ _ _ _ _ _ _ _ _)
      | (with_reducible exact LeO.refl _)
      | (with_reducible exact LeO.none _)
      | (with_reducible refine LeO.ite ?_ ?_)
      | (with_reducible refine LeO.bind ?_ (fun _ => ?_))
      | exact ih0 _ _ _ _ _ _
      | exact ih1 _ _ _ _ _ _ _ _ _
      | exact ih2 _ _ _ _ _ _ _ _ _
      | exact ih3 _ _ _ _ _ _ _ _ _ _ _ _ _ _ _
      | exact ih4 _ _ _ _ _ _ _ _ _ _ _ _ _ _ _
      | exact ih5 _ _ _ _ _ _ _ _ _ _ _ _ _ _ _
      | exact ih6 _ _ _ _ _ _ _ _ _ _ _ _ _ _ _
      | exact LeO.none _
      | refine LeO.ite ?_ ?_
      | refine LeO.bind ?_ (fun _ => ?_)
    · intro y0 y1 y2 y3 y4 y5 y6 y7 y8 y9 y10 y11 y12 y13 y14
      unfold cohousinglaw22_LotteryRefusals.l1
      repeat' first
      | (with_reducible exact ih0 _ _ _ _ _ _)
      | (with_reducible exact ih1 _ _ _ _ _ _ _ _ _)
      | (with_reducible exact ih2 _ _ _ _ _ _ _ _ _)
      | (with_reducible exact ih3 _ _ _ _ _ _ _ _ _ _ _ _ _ _ _)
      | (with_reducible exact ih4 _ _ _ _ _ _ _ _ _ _ _ _ _ _ _)
      | (with_reducible exact ih5 _ _ _ _ _ _ _ _ _ _ _ _ _ _ _)
      | (with_reducible exact ih6 _ _ _ _ _ _ _ _ _ _ _ _ _ _ _)
      | (with_reducible exact LeO.refl _)
      | (with_reducible exact LeO.none _)
      | (with_reducible refine LeO.ite ?_ ?_)
      | (with_reducible refine LeO.bind ?_ (fun _ => ?_))
      | exact ih0 _ _ _ _ _ _
      | exact ih1 _ _ _ _ _ _ _ _ _
      | exact ih2 _ _ _ _ _ _ _ _ _
      | exact ih3 _ _ _ _ _ _ _ _ _ _ _ _ _ _ _
      | exact ih4 _ _ _ _ _ _ _ _ _ _ _ _ _ _ _
      | exact ih5 _ _ _ _ _ _ _ _ _ _ _ _ _ _ _
      | exact ih6 _ _ _ _ _ _ _ _ _ _ _ _ _ _ _
      | exact LeO.none _
      | refine LeO.ite ?_ ?_
      | refine LeO.bind ?_ (fun _ => ?_)
    · intro y0 y1 y2 y3 y4 y5 y6 y7 y8 y9 y10 y11 y12 y13 y14
      unfold cohousinglaw22_LotteryRefusals.l2
      repeat' first
      | (with_reducible exact ih0 _ _ _ _ _ _)
      | (with_reducible exact ih1 _ _ _ _ _ _ _ _ _)
      | (with_reducible exact ih2 _ _ _ _ _ _ _ _ _)
      | (with_reducible exact ih3 _ _ _ _ _ _ _ _ _ _ _ _ _ _ _)
      | (with_reducible exact ih4 _ _ _ _ _ _ _ _ _ _ _ _ _ _ _)
      | (with_reducible exact ih5 _ _ _ _ _ _ _ _ _ _ _ _ _ _ _)
      | (with_reducible exact ih6 _ _ _ _ _ _ _ _ _ _ _ _ _ _ _)
      | (with_reducible exact LeO.refl _)
      | (with_reducible exact LeO.none _)
      | (with_reducible refine LeO.ite ?_ ?_)
      | (with_reducible refine LeO.bind ?_ (fun _ => ?_))
      | exact ih0 _ _ _ _ _ _
      | exact ih1 _ _ _ _ _ _ _ _ _
      | exact ih2 _ _ _ _ _ _ _ _ _
      | exact ih3 _ _ _ _ _ _ _ _ _ _ _ _ _ _ _
      | exact ih4 _ _ _ _ _ _ _ _ _ _ _ _ _ _ _
      | exact ih5 _ _ _ _ _ _ _ _ _ _ _ _ _ _ _
      | exact ih6 _ _ _ _ _ _ _ _ _ _ _ _ _ _ _
      | exact LeO.none _
      | refine LeO.ite ?_ ?_
      | refine LeO.bind ?_ (fun _ => ?_)
    · intro y0 y1 y2 y3 y4 y5 y6 y7 y8 y9 y10 y11 y12 y13 y14
      unfold cohousinglaw22_LotteryRefusals.l3
      repeat' first
      | (with_reducible exact ih0 _ _ _ _ _ _)
      | (with_reducible exact ih1 _ _ _ _ _ _ _ _ _)
      | (with_reducible exact ih2 _ _ _ _ _ _ _ _ _)
      | (with_reducible exact ih3 _ _ _ _ _ _ _ _ _ _ _ _ _ _ _)
      | (with_reducible exact ih4 _ _ _ _ _ _ _ _ _ _ _ _ _ _ _)
      | (with_reducible exact ih5 _ _ _ _ _ _ _ _ _ _ _ _ _ _ _)
      | (with_reducible exact ih6 _ _ _ _ _ _ _ _ _ _ _ _ _ _ _)
      | (with_reducible exact LeO.refl _)
      | (with_reducible exact LeO.none _)
      | (with_reducible refine LeO.ite ?_ ?_)
      | (with_reducible refine LeO.bind ?_ (fun _ => ?_))
      | exact ih0 _ _ _ _ _ _
      | exact ih1 _ _ _ _ _ _ _ _ _
      | exact ih2 _ _ _ _ _ _ _ _ _
      | exact ih3 _ _ _ _ _ _ _ _ _ _ _ _ _ _ _
      | exact ih4 _ _ _ _ _ _ _ _ _ _ _ _ _ _ _
      | exact ih5 _ _ _ _ _ _ _ _ _ _ _ _ _ _ _
      | exact ih6 _ _ _ _ _ _ _ _ _ _ _ _ _ _ _
      | exact LeO.none _
      | refine LeO.ite ?_ ?_
      | refine LeO.bind ?_ (fun _ => ?_)
    · intro y0 y1 y2 y3 y4 y5 y6 y7 y8 y9 y10 y11 y12 y13 y14
      unfold cohousinglaw22_LotteryRefusals.l4
      repeat' first
      | (with_reducible exact ih0 _ _ _ _ _ _)
      | (with_reducible exact ih1 _ _ _ _ _ _ _ _ _)
      | (with_reducible exact ih2 _ _ _ _ _ _ _ _ _)
      | (with_reducible exact ih3 _ _ _ _ _ _ _ _ _ _ _ _ _ _ _)
      | (with_reducible exact ih4 _ _ _ _ _ _ _ _ _ _ _ _ _ _ _)
      | (with_reducible exact ih5 _ _ _ _ _ _ _ _ _ _ _ _ _ _ _)
      | (with_reducible exact ih6 _ _ _ _ _ _ _ _ _ _ _ _ _ _ _)
      | (with_reducible exact LeO.refl _)
      | (with_reducible exact LeO.none _)
      | (with_reducible refine LeO.ite ?_ ?_)
      | (with_reducible refine LeO.bind ?_ (fun _ => ?_))
      | exact ih0 _ _ _ _ _ _
      | exact ih1 _ _ _ _ _ _ _ _ _
      | exact ih2 _ _ _ _ _ _ _ _ _
      | exact ih3 _ _ _ _ _ _ _ _ _ _ _ _ _ _ _
      | exact ih4 _ _ _ _ _ _ _ _ _ _ _ _ _ _ _
      | exact ih5 _ _ _ _ _ _ _ _ _ _ _ _ _ _ _
      | exact ih6 _ _ _ _ _ _ _ _ _ _ _ _ _ _ _
      | exact LeO.none _
      | refine LeO.ite ?_ ?_
      | refine LeO.bind ?_ (fun _ => ?_)
theorem cohousinglaw22_LotteryRefusals.mono : ∀ a0 a1 a2 a3 k, LeO (cohousinglaw22_LotteryRefusals.f k a0 a1 a2 a3) (cohousinglaw22_LotteryRefusals.f (k + 1) a0 a1 a2 a3) := by
  intro a0 a1 a2 a3 k
  obtain ⟨ih0, ih1, ih2, ih3, ih4, ih5, ih6⟩ := cohousinglaw22_LotteryRefusals.mono_l k
  unfold cohousinglaw22_LotteryRefusals.f
  repeat' first
      | (with_reducible exact ih0 _ _ _ _ _ _)
      | (with_reducible exact ih1 _ _ _ _ _ _ _ _ _)
      | (with_reducible exact ih2 _ _ _ _ _ _ _ _ _)
      | (with_reducible exact ih3 _ _ _ _ _ _ _ _ _ _ _ _ _ _ _)
      | (with_reducible exact ih4 _ _ _ _ _ _ _ _ _ _ _ _ _ _ _)
      | (with_reducible exact ih5 _ _ _ _ _ _ _ _ _ _ _ _ _ _ _)
      | (with_reducible exact ih6 _ _ _ _ _ _ _ _ _ _ _ _ _ _ _)
      | (with_reducible exact LeO.refl _)
      | (with_reducible exact LeO.none _)
      | (with_reducible refine LeO.ite ?_ ?_)
      | (with_reducible refine LeO.bind ?_ (fun _ => ?_))
      | exact ih0 _ _ _ _ _ _
      | exact ih1 _ _ _ _ _ _ _ _ _
      | exact ih2 _ _ _ _ _ _ _ _ _
      | exact ih3 _ _ _ _ _ _ _ _ _ _ _ _ _ _ _
      | exact ih4 _ _ _ _ _ _ _ _ _ _ _ _ _ _ _
      | exact ih5 _ _ _ _ _ _ _ _ _ _ _ _ _ _ _
      | exact ih6 _ _ _ _ _ _ _ _ _ _ _ _ _ _ _
      | exact LeO.none _
      | refine LeO.ite ?_ ?_
      | refine LeO.bind ?_ (fun _ => ?_)
set_option maxHeartbeats 8000000 in
set_option maxRecDepth 100000 in
theorem cohousinglaw22_LotteryRefusals.calls (k : Nat) (A0 : Option Addr) (c0 : Nat) (l0 : List (S31)) (a1 : Int) (A2 : Option Addr) (c2 : Nat) (l2 : List (S23)) (A3 : Option Addr) (c3 : Nat) (l3 : List (S23)) (r : Bool) (w : World) (hr0 : Kd.C k31 w A0 l0.length l0) (hc0 : l0.length ≤ c0) (hr2 : Kd.C k23 w A2 l2.length l2) (hc2 : l2.length ≤ c2) (hr3 : Kd.C k23 w A3 l3.length l3) (hc3 : l3.length ≤ c3) (h : cohousinglaw22_LotteryRefusals.f k l0 a1 l2 l3 = some r) (hgl : Gl w) :
    Calls Tryd.prog 8 #[.slice A0 l0.length c0, .int .i64 a1, .slice A2 l2.length c2, .slice A3 l3.length c3] w fun e w' => e = .returned (.bool r) ∧ Below w.heap.size w w' := by
  have HGL := Aside0.mk hgl
  clear hgl
  have hu23 := Tryd.underlying23
  have HR0 := Aside0.mk hr0
  have HC0 := Aside0.mk hc0
  clear hr0 hc0
  have HR2 := Aside0.mk hr2
  have HC2 := Aside0.mk hc2
  clear hr2 hc2
  have HR3 := Aside0.mk hr3
  have HC3 := Aside0.mk hc3
  clear hr3 hc3
  have HB := Aside0.mk (Below.refl w.heap.size w)
  have H : ((cohousinglaw22_head.f).bind fun t407 => (if (l0.length : Int) > 16 then (cohousinglaw22_LotteryRefusals.j0 k l0 a1 l2 l3 t407 true) else (if (l2.length : Int) > 16 then (cohousinglaw22_LotteryRefusals.j0 k l0 a1 l2 l3 t407 true) else (cohousinglaw22_LotteryRefusals.j0 k l0 a1 l2 l3 t407 (decide ((l3.length : Int) > 16)))))) = some r := h
  clear h
  replace H := Option.bind_eq_some_iff.mp H
  obtain ⟨t407, A50, H⟩ := H
  replace H : (if (l0.length : Int) > 16 then (cohousinglaw22_LotteryRefusals.j0 k l0 a1 l2 l3 t407 true) else (if (l2.length : Int) > 16 then (cohousinglaw22_LotteryRefusals.j0 k l0 a1 l2 l3 t407 true) else (cohousinglaw22_LotteryRefusals.j0 k l0 a1 l2 l3 t407 (decide ((l3.length : Int) > 16))))) = some r := H
  have A5 := Aside0.mk A50
  clear A50
  have HC6 := Aside0.mk H
  clear H
  go_enter Tryd.func8, Tryd.ntmps8
  go_upto_region 2 with (first | ((with_reducible refine gate_callee (f := 10) rfl ?_); refine goesL_ (some 28) rfl rfl Tryd.func10 (by kernel_rfl) rfl #[] rfl (by (try simp only [List.map_toArray, List.map_cons, List.map_nil]); first | done | rfl | (simp only [List.length_drop, List.length_take]; rfl)) ?_; (with_reducible refine (cohousinglaw22_head.calls  t407 _ A5.out ?gl).mono ?_); (case gl => refine HGL.out.below ?_; repeat (first | (with_reducible first | exact HB.out | apply below_alloc | apply pw_below_drewN | apply below_drew1 | refine below_set ?_ GE419.out) | exact HB.out)); rintro e w7 ⟨rfl, hb⟩; refine ⟨_, rfl, ?_⟩; have n0_ := Aside0.mk (below_step (by repeat (first | (with_reducible first | exact HB.out | apply below_alloc | apply pw_below_drewN | apply below_drew1) | exact HB.out)) hb); clear HB; have HB := n0_; clear n0_; (try clear hb); (try clear hb2); (try clear hk); (try clear hi)))
  (try simp only [Act.put, List.setIfInBounds_toArray, List.set_cons_zero, List.set_cons_succ])
  go_cut [41] (fun v41 wc => ∃ (kq : Nat) (x41_5 : Bool), v41 = .bool x41_5 ∧ Aside0 (cohousinglaw22_LotteryRefusals.j0 kq l0 a1 l2 l3 t407 x41_5 = some r) ∧ Aside0 (kq ≤ k) ∧ Aside0 (Below w.heap.size w wc))
  case first =>
    have H := HC6.out
    clear HC6
    by_cases c8 : (l0.length : Int) > 16
    · rw [if_pos c8] at H
      have c8b0 : decide (16 < (l0.length : Int)) = true := decide_eq_true c8
      have c8b1 : decide (16 < l0.length) = true := decide_eq_true (by omega)
      clear c8
      (first | rw [c8b0] | (simp only [i64_w, i32_w]; rw [c8b0]) | skip)
      have H' := Aside0.mk H
      clear H
      go_wp2
      go_meet
      case rel => exact ⟨_, (true), (by first | rfl | (simp; done) | (simp [*]; done)), H', ⟨by first | omega | exact Nat.le_refl _⟩, ⟨by repeat (first | (with_reducible first | exact HB.out | apply below_alloc | apply pw_below_drewN | apply below_drew1) | exact HB.out)⟩⟩
    · rw [if_neg c8] at H
      have c8b0 : decide (16 < (l0.length : Int)) = false := decide_eq_false c8
      have c8b1 : decide (16 < l0.length) = false := decide_eq_false (by omega)
      clear c8
      (first | rw [c8b0] | (simp only [i64_w, i32_w]; rw [c8b0]) | skip)
      by_cases c9 : (l2.length : Int) > 16
      · rw [if_pos c9] at H
        have c9b0 : decide (16 < (l2.length : Int)) = true := decide_eq_true c9
        have c9b1 : decide (16 < l2.length) = true := decide_eq_true (by omega)
        clear c9
        have H' := Aside0.mk H
        clear H
        go_wp2
        go_meet
        case rel => exact ⟨_, (true), (by first | rfl | (simp; done) | (simp [*]; done)), H', ⟨by first | omega | exact Nat.le_refl _⟩, ⟨by repeat (first | (with_reducible first | exact HB.out | apply below_alloc | apply pw_below_drewN | apply below_drew1) | exact HB.out)⟩⟩
      · rw [if_neg c9] at H
        have c9b0 : decide (16 < (l2.length : Int)) = false := decide_eq_false c9
        have c9b1 : decide (16 < l2.length) = false := decide_eq_false (by omega)
        clear c9
        have H' := Aside0.mk H
        clear H
        go_wp2
        go_meet
        case rel => exact ⟨_, (decide ((l3.length : Int) > 16)), (by first | rfl | (simp; done) | (simp [*]; done)), H', ⟨by first | omega | exact Nat.le_refl _⟩, ⟨by repeat (first | (with_reducible first | exact HB.out | apply below_alloc | apply pw_below_drewN | apply below_drew1) | exact HB.out)⟩⟩
  case rest =>
    clear HC6
    try clear c1
    try clear c2
    try clear p2
    try clear c3
    try clear c8
    try clear c8b0
    try clear c8b1
    try clear c9
    try clear c9b0
    try clear c9b1
    obtain ⟨kq, x41_5, rfl, HA, HJ5, HB⟩ := hcut
    cases kq with
    | zero => exact absurd HA.out (by simp [cohousinglaw22_LotteryRefusals.j0])
    | succ kj5 =>
      have H := HA.out
      clear HA
      simp only [cohousinglaw22_LotteryRefusals.j0] at H
      by_cases c10 : x41_5 = true
      · subst c10
        have H1 : (some t407) = some r := by rw [if_pos rfl] at H; exact H
        clear H
        have H := H1
        clear H1
        obtain rfl := Option.some.inj H
        go_wp2
        go_ret
        exact ⟨by first | rfl | (simp [errW_none, errW_some] <;> rfl) | (simp [*, errW_none, errW_some] <;> rfl), by repeat (first | (with_reducible first | exact HB.out | apply below_alloc | apply pw_below_drewN | apply below_drew1) | exact HB.out)⟩
      · replace c10 := Bool.eq_false_iff.mpr c10
        subst c10
        have H1 : ((lottery_Draw.f l0 a1 l2).bind fun bt408 => ((lottery_Draw.f l0 a1 l3).bind fun bt413 => (if bt408.2.2 = 0 then (cohousinglaw22_LotteryRefusals.j1 kj5 l0 l2 l3 t407 bt408.1 bt408.2.1 bt413.1 bt413.2.1 (bt413.2.2 != 0)) else (cohousinglaw22_LotteryRefusals.j1 kj5 l0 l2 l3 t407 bt408.1 bt408.2.1 bt413.1 bt413.2.1 true)))) = some r := by rw [if_neg (show ¬ (false = true) by decide)] at H; exact H
        clear H
        have H := H1
        clear H1
        replace H := Option.bind_eq_some_iff.mp H
        obtain ⟨⟨t408, t409, t410⟩, A110, H⟩ := H
        replace H : ((lottery_Draw.f l0 a1 l3).bind fun bt413 => (if t410 = 0 then (cohousinglaw22_LotteryRefusals.j1 kj5 l0 l2 l3 t407 t408 t409 bt413.1 bt413.2.1 (bt413.2.2 != 0)) else (cohousinglaw22_LotteryRefusals.j1 kj5 l0 l2 l3 t407 t408 t409 bt413.1 bt413.2.1 true))) = some r := H
        have A11 := Aside0.mk A110
        clear A110
        replace H := Option.bind_eq_some_iff.mp H
        obtain ⟨⟨t413, t414, t415⟩, A120, H⟩ := H
        replace H : (if t410 = 0 then (cohousinglaw22_LotteryRefusals.j1 kj5 l0 l2 l3 t407 t408 t409 t413 t414 (t415 != 0)) else (cohousinglaw22_LotteryRefusals.j1 kj5 l0 l2 l3 t407 t408 t409 t413 t414 true)) = some r := H
        have A12 := Aside0.mk A120
        clear A120
        have HC13 := Aside0.mk H
        clear H
        go_upto_region 6 with (first | ((with_reducible refine gate_callee (f := 16) rfl ?_); refine goesL_ (some 47) rfl rfl Tryd.func16 (by kernel_rfl) rfl #[.slice A0 l0.length c0, .int .i64 a1, .slice A2 l2.length c2] rfl (by (try simp only [List.map_toArray, List.map_cons, List.map_nil]); first | done | rfl | (simp only [List.length_drop, List.length_take]; rfl)) ?_; (with_reducible refine (lottery_Draw.calls _ _ l0 a1 _ _ l2 t408 t409 t410 _ ?side1 ?side2 ?side3 ?side4 A11.out ?gl).mono ?_); (case gl => refine HGL.out.below ?_; repeat (first | (with_reducible first | exact HB.out | apply below_alloc | apply pw_below_drewN | apply below_drew1 | refine below_set ?_ GE419.out) | exact HB.out)); (case side1 => repeat (first | exact (Kd.C_below HR0.out HB.out) | (with_reducible refine Kd.C_alloc ?_ _) | (with_reducible refine Kd.C_drewN ?_ _) | (with_reducible refine Kd.C_drew ?_))); (case side2 => exact HC0.out); (case side3 => repeat (first | exact (Kd.C_below HR2.out HB.out) | (with_reducible refine Kd.C_alloc ?_ _) | (with_reducible refine Kd.C_drewN ?_ _) | (with_reducible refine Kd.C_drew ?_))); (case side4 => exact HC2.out); rintro e w14 ⟨v411, rfl, ho0, hb⟩; refine ⟨_, rfl, ?_⟩; have n0_ := Aside0.mk (Kd.R_lower ho0 (below_size (by repeat (first | (with_reducible first | exact HB.out | apply below_alloc | apply pw_below_drewN | apply below_drew1) | exact HB.out)))); have n1_ := Aside0.mk (below_step (by repeat (first | (with_reducible first | exact HB.out | apply below_alloc | apply pw_below_drewN | apply below_drew1) | exact HB.out)) hb); clear HB; have HO412 := n0_; have HB := n1_; clear n0_ n1_; (try clear hb); (try clear hb2); (try clear hk); (try clear hi); (try clear ho0)) | ((with_reducible refine gate_callee (f := 16) rfl ?_); refine goesL_ (some 55) rfl rfl Tryd.func16 (by kernel_rfl) rfl #[.slice A0 l0.length c0, .int .i64 a1, .slice A3 l3.length c3] rfl (by (try simp only [List.map_toArray, List.map_cons, List.map_nil]); first | done | rfl | (simp only [List.length_drop, List.length_take]; rfl)) ?_; (with_reducible refine (lottery_Draw.calls _ _ l0 a1 _ _ l3 t413 t414 t415 _ ?side1 ?side2 ?side3 ?side4 A12.out ?gl).mono ?_); (case gl => refine HGL.out.below ?_; repeat (first | (with_reducible first | exact HB.out | apply below_alloc | apply pw_below_drewN | apply below_drew1 | refine below_set ?_ GE419.out) | exact HB.out)); (case side1 => repeat (first | exact (Kd.C_below HR0.out HB.out) | (with_reducible refine Kd.C_alloc ?_ _) | (with_reducible refine Kd.C_drewN ?_ _) | (with_reducible refine Kd.C_drew ?_))); (case side2 => exact HC0.out); (case side3 => repeat (first | exact (Kd.C_below HR3.out HB.out) | (with_reducible refine Kd.C_alloc ?_ _) | (with_reducible refine Kd.C_drewN ?_ _) | (with_reducible refine Kd.C_drew ?_))); (case side4 => exact HC3.out); rintro e w15 ⟨v416, rfl, ho0, hb⟩; refine ⟨_, rfl, ?_⟩; have n0_ := Aside0.mk (Kd.R_elder' (by (with_reducible repeat (first | apply Kd.R_alloc | apply Kd.R_drewN | apply Kd.R_drew)); exact HO412.out) (Kd.R_base ho0) hb); have n1_ := Aside0.mk (Kd.R_lower (Kd.R_new' ho0 (Kd.R_lt (by (with_reducible repeat (first | apply Kd.R_alloc | apply Kd.R_drewN | apply Kd.R_drew)); exact HO412.out))) (below_size (by repeat (first | (with_reducible first | exact HB.out | apply below_alloc | apply pw_below_drewN | apply below_drew1) | exact HB.out)))); have n2_ := Aside0.mk (below_step (by repeat (first | (with_reducible first | exact HB.out | apply below_alloc | apply pw_below_drewN | apply below_drew1) | exact HB.out)) hb); clear HO412; clear HB; have HO412 := n0_; have HO417 := n1_; have HB := n2_; clear n0_ n1_ n2_; (try clear hb); (try clear hb2); (try clear hk); (try clear hi); (try clear ho0)))
        (try simp only [Act.put, List.setIfInBounds_toArray, List.set_cons_zero, List.set_cons_succ])
        go_cut [64] (fun v64 wc => ∃ (kq : Nat) (x64_12 : Bool), v64 = .bool x64_12 ∧ Aside0 (cohousinglaw22_LotteryRefusals.j1 kq l0 l2 l3 t407 t408 t409 t413 t414 x64_12 = some r) ∧ Aside0 (kq ≤ kj5) ∧ Aside0 (Kd.R (Kd.int .i64) 3 wc w.heap.size (fun k_ => some k_ ≠ (v416 : Value).ownBlock) v411 t409) ∧ Aside0 (Kd.R (Kd.int .i64) 3 wc w.heap.size (fun k_ => some k_ ≠ (v411 : Value).ownBlock) v416 t414) ∧ Aside0 (Below w.heap.size w wc))
        case first =>
          have H := HC13.out
          clear HC13
          by_cases c16 : t410 = 0
          · rw [if_pos c16] at H
            have c16b0 : (t410 == 0) = true := beq_iff_eq.mpr c16
            have c16b1 : (t410 != 0) = false := bne_eq_false_iff_eq.mpr c16
            clear c16
            (first | rw [c16b0] | (simp only [i64_w, i32_w]; rw [c16b0]) | skip)
            have H' := Aside0.mk H
            clear H
            go_wp2
            go_meet
            case rel => exact ⟨_, ((t415 != 0)), (by first | rfl | (simp; done) | (simp [*]; done)), H', ⟨by have := HJ5.out; first | omega | exact Nat.le_refl _⟩, ⟨by (with_reducible repeat (first | apply Kd.R_alloc | apply Kd.R_drewN | apply Kd.R_drew)); exact Kd.R_mono HO412.out (fun _ hk => hk.2)⟩, ⟨by (with_reducible repeat (first | apply Kd.R_alloc | apply Kd.R_drewN | apply Kd.R_drew)); exact Kd.R_mono HO417.out (fun _ hk => hk.2)⟩, ⟨by repeat (first | (with_reducible first | exact HB.out | apply below_alloc | apply pw_below_drewN | apply below_drew1) | exact HB.out)⟩⟩
          · rw [if_neg c16] at H
            have c16b0 : (t410 == 0) = false := beq_eq_false_iff_ne.mpr c16
            have c16b1 : (t410 != 0) = true := bne_iff_ne.mpr c16
            (first | rw [c16b0] | (simp only [i64_w, i32_w]; rw [c16b0]) | skip)
            have H' := Aside0.mk H
            clear H
            go_wp2
            go_meet
            case rel => exact ⟨_, (true), (by first | rfl | (simp; done) | (simp [*]; done)), H', ⟨by have := HJ5.out; first | omega | exact Nat.le_refl _⟩, ⟨by (with_reducible repeat (first | apply Kd.R_alloc | apply Kd.R_drewN | apply Kd.R_drew)); exact Kd.R_mono HO412.out (fun _ hk => hk.2)⟩, ⟨by (with_reducible repeat (first | apply Kd.R_alloc | apply Kd.R_drewN | apply Kd.R_drew)); exact Kd.R_mono HO417.out (fun _ hk => hk.2)⟩, ⟨by repeat (first | (with_reducible first | exact HB.out | apply below_alloc | apply pw_below_drewN | apply below_drew1) | exact HB.out)⟩⟩
        case rest =>
          clear HC13
          try clear c1
          try clear c2
          try clear p2
          try clear c3
          try clear c8
          try clear c8b0
          try clear c8b1
          try clear c9
          try clear c9b0
          try clear c9b1
          try clear c10
          try clear c16
          try clear c16b0
          try clear c16b1
          try clear p2
          obtain ⟨kq, x64_12, rfl, HA, HJ12, HO_11, HO_14, HB⟩ := hcut
          cases kq with
          | zero => exact absurd HA.out (by simp [cohousinglaw22_LotteryRefusals.j1])
          | succ kj12 =>
            have H := HA.out
            clear HA
            simp only [cohousinglaw22_LotteryRefusals.j1] at H
            by_cases c17 : x64_12 = true
            · subst c17
              have H1 : (some t407) = some r := by rw [if_pos rfl] at H; exact H
              clear H
              have H := H1
              clear H1
              obtain rfl := Option.some.inj H
              go_wp2
              go_ret
              exact ⟨by first | rfl | (simp [errW_none, errW_some] <;> rfl) | (simp [*, errW_none, errW_some] <;> rfl), by repeat (first | (with_reducible first | exact HB.out | apply below_alloc | apply pw_below_drewN | apply below_drew1) | exact HB.out)⟩
            · replace c17 := Bool.eq_false_iff.mpr c17
              subst c17
              have H1 : (cohousinglaw22_LotteryRefusals.l0 kj12 l0 l2 l3 t407 t408 t409 t413 t414 1) = some r := by rw [if_neg (show ¬ (false = true) by decide)] at H; exact H
              clear H
              have H := H1
              clear H1
              have H' := Aside0.mk H
              clear H
              go_wp2
              go_loopg [9, 16] kj12 (fun kq v9 v16 w' => ∃ (x9_3 : Bool) (x16_3 : Int), v9 = .bool x9_3 ∧ v16 = .int .i64 x16_3 ∧ Aside0 (cohousinglaw22_LotteryRefusals.l0 kq l0 l2 l3 x9_3 t408 t409 t413 t414 x16_3 = some r) ∧ Aside0 (kq ≤ kj12) ∧ Aside0 (Kd.R (Kd.int .i64) 3 w' w.heap.size (fun k_ => some k_ ≠ (v416 : Value).ownBlock) v411 t409) ∧ Aside0 (Kd.R (Kd.int .i64) 3 w' w.heap.size (fun k_ => some k_ ≠ (v411 : Value).ownBlock) v416 t414) ∧ Aside0 (Below w.heap.size w w'))
              case atStart => exact ⟨(t407), (1), (by first | rfl | (simp; done) | (simp [*]; done)), (by first | rfl | (simp; done) | (simp [*]; done)), H', ⟨Nat.le_refl _⟩, ⟨by (with_reducible repeat (first | apply Kd.R_alloc | apply Kd.R_drewN | apply Kd.R_drew)); exact HO_11.out⟩, ⟨by (with_reducible repeat (first | apply Kd.R_alloc | apply Kd.R_drewN | apply Kd.R_drew)); exact HO_14.out⟩, ⟨by repeat (first | (with_reducible first | exact HB.out | apply below_alloc | apply pw_below_drewN | apply below_drew1) | exact HB.out)⟩⟩
              case round =>
                clear H'
                try clear c1
                try clear c2
                try clear p2
                try clear c3
                try clear c8
                try clear c8b0
                try clear c8b1
                try clear c9
                try clear c9b0
                try clear c9b1
                try clear c10
                try clear c16
                try clear c16b0
                try clear c16b1
                try clear c17
                try clear p2
                obtain ⟨x9_3, x16_3, rfl, rfl, HA, HK3, HO_11, HO_14, HB⟩ := hrel
                cases gk with
                | zero => exact absurd HA.out (by simp [cohousinglaw22_LotteryRefusals.l0])
                | succ k3 =>
                  have H := HA.out
                  clear HA
                  simp only [cohousinglaw22_LotteryRefusals.l0] at H
                  by_cases c18 : x16_3 ≤ (l0.length : Int)
                  · rw [if_pos c18] at H
                    have c18b0 : decide (x16_3 ≤ (l0.length : Int)) = true := decide_eq_true c18
                    clear c18
                    have H' := Aside0.mk H
                    clear H
                    go_wp2
                    go_loopg [17, 74] k3 (fun kq v17 v74 w' => ∃ (x17_4 : Bool) (x74_4 : Int), v17 = .bool x17_4 ∧ v74 = .int .i64 x74_4 ∧ Aside0 (cohousinglaw22_LotteryRefusals.l1 kq l0 l2 l3 x9_3 t408 t409 t413 t414 x16_3 x17_4 false false l2 (l2.length : Int) x74_4 = some r) ∧ Aside0 (kq ≤ k3) ∧ Aside0 (Kd.R (Kd.int .i64) 3 w' w.heap.size (fun k_ => some k_ ≠ (v416 : Value).ownBlock) v411 t409) ∧ Aside0 (Kd.R (Kd.int .i64) 3 w' w.heap.size (fun k_ => some k_ ≠ (v411 : Value).ownBlock) v416 t414) ∧ Aside0 (Below w.heap.size w w'))
                    case atStart => exact ⟨(false), (0), (by first | rfl | (simp; done) | (simp [*]; done)), (by first | rfl | (simp; done) | (simp [*]; done)), H', ⟨Nat.le_refl _⟩, ⟨by (with_reducible repeat (first | apply Kd.R_alloc | apply Kd.R_drewN | apply Kd.R_drew)); exact HO_11.out⟩, ⟨by (with_reducible repeat (first | apply Kd.R_alloc | apply Kd.R_drewN | apply Kd.R_drew)); exact HO_14.out⟩, ⟨by repeat (first | (with_reducible first | exact HB.out | apply below_alloc | apply pw_below_drewN | apply below_drew1) | exact HB.out)⟩⟩
                    case round =>
                      clear H'
                      try clear c1
                      try clear c2
                      try clear p2
                      try clear c3
                      try clear c8
                      try clear c8b0
                      try clear c8b1
                      try clear c9
                      try clear c9b0
                      try clear c9b1
                      try clear c10
                      try clear c16
                      try clear c16b0
                      try clear c16b1
                      try clear c17
                      try clear c18
                      try clear c18b0
                      try clear p2
                      obtain ⟨x17_4, x74_4, rfl, rfl, HA, HK4, HO_11, HO_14, HB⟩ := hrel
                      cases gk with
                      | zero => exact absurd HA.out (by simp [cohousinglaw22_LotteryRefusals.l1])
                      | succ k4 =>
                        have H := HA.out
                        clear HA
                        simp only [cohousinglaw22_LotteryRefusals.l1] at H
                        by_cases c19 : x74_4 < (l2.length : Int)
                        · rw [if_pos c19] at H
                          have c19b0 : decide (x74_4 < (l2.length : Int)) = true := decide_eq_true c19
                          clear c19
                          by_cases c20 : 0 ≤ x74_4
                          · rw [if_pos c20] at H
                            have c20b0 : decide (0 ≤ x74_4) = true := decide_eq_true c20
                            clear c20
                            by_cases c21 : x74_4 < (l2.length : Int)
                            · rw [if_pos c21] at H
                              have c21b0 : decide (x74_4 < (l2.length : Int)) = true := decide_eq_true c21
                              clear c21
                              by_cases c22 : x17_4 = true
                              · subst c22
                                have H1 : (cohousinglaw22_LotteryRefusals.l1 k4 l0 l2 l3 x9_3 t408 t409 t413 t414 x16_3 true false false l2 (l2.length : Int) (wrap64 (x74_4 + 1))) = some r := by rw [if_pos rfl] at H; exact H
                                clear H
                                have H := H1
                                clear H1
                                have H' := Aside0.mk H
                                clear H
                                have p418 : 0 ≤ (x74_4 : Int) := of_decide_eq_true (by first | (with_reducible assumption) | assumption)
                                have q418 : x74_4 < (l2.length : Int) := of_decide_eq_true (by first | (with_reducible assumption) | assumption)
                                obtain ⟨ad418, e418, hx418_0, hx418_1, hx418_2⟩ := at_T23 HR2.out x74_4 p418 q418
                                cases e418
                                replace hx418_0 := (HB.out.cell (World.block_lt_of_cell? w _ hx418_0)).trans hx418_0
                                replace hx418_1 := (HB.out.cell (World.block_lt_of_cell? w _ hx418_1)).trans hx418_1
                                replace hx418_2 := (HB.out.cell (World.block_lt_of_cell? w _ hx418_2)).trans hx418_2
                                replace p418 := eq_true p418
                                replace q418 := eq_true q418
                                go_wp2_with (first | ((with_reducible refine gate_dst (N := 21) rfl ?_); (try (refine gate_guard (by rfl) ?_; dsimp only)); refine box_event ?hg (N := 21) ?hd (cs := #[.int .i64 0, .int .i64 0, .int .i64 0]) (t := 23) ?hr ?_; (case hd => rfl); (case hg => rfl); (case hr => first | (go_simp; done) | (go_simp; rfl)); intro gb419 hg w23 hbox hb; have n0_ := Aside0.mk (Kd.R_below (by (with_reducible repeat (first | apply Kd.R_alloc | apply Kd.R_drewN | apply Kd.R_drew)); exact HO_11.out) hb); have n1_ := Aside0.mk (Kd.R_below (by (with_reducible repeat (first | apply Kd.R_alloc | apply Kd.R_drewN | apply Kd.R_drew)); exact HO_14.out) hb); have n2_ := Aside0.mk (below_step (by repeat (first | (with_reducible first | exact HB.out | apply below_alloc | apply pw_below_drewN | apply below_drew1) | exact HB.out)) hb); have n3_ := Aside0.mk (hbox); have n4_ := Aside0.mk ((by rw [hg]; exact (below_size (by repeat (first | (with_reducible first | exact HB.out | apply below_alloc | apply pw_below_drewN | apply below_drew1) | exact HB.out))) : w.heap.size ≤ gb419)); have n5_ := Aside0.mk ((by rw [hg]; exact (below_size (by repeat (first | (with_reducible first | exact HB.out | apply below_alloc | apply pw_below_drewN | apply below_drew1) | exact HB.out))) : w.heap.size ≤ gb419)); clear HO_11; clear HO_14; clear HB; have HO_11 := n0_; have HO_14 := n1_; have HB := n2_; have BK419 := n3_; have GW419 := n4_; have GE419 := n5_; clear n0_ n1_ n2_ n3_ n4_ n5_; clear hb hbox hg; have hcz24_0 : w23.cell? ⟨gb419, 0, none⟩ = some (.int .i64 0) := (blk_cell BK419.out 0).trans rfl; have hcz24_1 : w23.cell? ⟨gb419, 1, none⟩ = some (.int .i64 0) := (blk_cell BK419.out 1).trans rfl; have hcz24_2 : w23.cell? ⟨gb419, 2, none⟩ = some (.int .i64 0) := (blk_cell BK419.out 2).trans rfl; have hfz24_0 := blk_frozen BK419.out 0; have hfz24_1 := blk_frozen BK419.out 1; have hfz24_2 := blk_frozen BK419.out 2))
                                go_roundg k4
                                case measure => have := HJ5.out; have := HJ12.out; have := HK3.out; have := HK4.out; omega
                                case rel => exact ⟨(true), (wrap64 (x74_4 + 1)), (by first | rfl | (simp; done) | (simp [*]; done)), (by first | rfl | (simp; done) | (simp [*]; done)), H', ⟨by have := HJ5.out; have := HJ12.out; have := HK3.out; have := HK4.out; omega⟩, ⟨by (with_reducible repeat (first | apply Kd.R_alloc | apply Kd.R_drewN | apply Kd.R_drew)); exact Kd.R_mono (Kd.R_far (p := ⟨gb419, 2, none⟩) (Kd.R_far (p := ⟨gb419, 1, none⟩) (Kd.R_far (p := ⟨gb419, 0, none⟩) (Kd.R_types HO_11.out BK419.out (by decide)) (fun _ hk => hk.2) (.int .i64 ((rd_T23 l2 x74_4).f0))) (fun _ hk => hk.2) (.int .i64 ((rd_T23 l2 x74_4).f1))) (fun _ hk => hk.2) (.int .i64 ((rd_T23 l2 x74_4).f2))) (fun _ hk => hk.1)⟩, ⟨by (with_reducible repeat (first | apply Kd.R_alloc | apply Kd.R_drewN | apply Kd.R_drew)); exact Kd.R_mono (Kd.R_far (p := ⟨gb419, 2, none⟩) (Kd.R_far (p := ⟨gb419, 1, none⟩) (Kd.R_far (p := ⟨gb419, 0, none⟩) (Kd.R_types HO_14.out BK419.out (by decide)) (fun _ hk => hk.2) (.int .i64 ((rd_T23 l2 x74_4).f0))) (fun _ hk => hk.2) (.int .i64 ((rd_T23 l2 x74_4).f1))) (fun _ hk => hk.2) (.int .i64 ((rd_T23 l2 x74_4).f2))) (fun _ hk => hk.1)⟩, ⟨by repeat (first | (with_reducible first | exact HB.out | apply below_alloc | apply pw_below_drewN | apply below_drew1 | refine below_set ?_ GE419.out) | exact HB.out)⟩⟩
                              · replace c22 := Bool.eq_false_iff.mpr c22
                                subst c22
                                have H1 : (cohousinglaw22_LotteryRefusals.l1 k4 l0 l2 l3 x9_3 t408 t409 t413 t414 x16_3 (((rd_T23 l2 x74_4).f0) == x16_3) false false l2 (l2.length : Int) (wrap64 (x74_4 + 1))) = some r := by rw [if_neg (show ¬ (false = true) by decide)] at H; exact H
                                clear H
                                have H := H1
                                clear H1
                                have H' := Aside0.mk H
                                clear H
                                have p418 : 0 ≤ (x74_4 : Int) := of_decide_eq_true (by first | (with_reducible assumption) | assumption)
                                have q418 : x74_4 < (l2.length : Int) := of_decide_eq_true (by first | (with_reducible assumption) | assumption)
                                obtain ⟨ad418, e418, hx418_0, hx418_1, hx418_2⟩ := at_T23 HR2.out x74_4 p418 q418
                                cases e418
                                replace hx418_0 := (HB.out.cell (World.block_lt_of_cell? w _ hx418_0)).trans hx418_0
                                replace hx418_1 := (HB.out.cell (World.block_lt_of_cell? w _ hx418_1)).trans hx418_1
                                replace hx418_2 := (HB.out.cell (World.block_lt_of_cell? w _ hx418_2)).trans hx418_2
                                replace p418 := eq_true p418
                                replace q418 := eq_true q418
                                go_wp2_with (first | ((with_reducible refine gate_dst (N := 21) rfl ?_); (try (refine gate_guard (by rfl) ?_; dsimp only)); refine box_event ?hg (N := 21) ?hd (cs := #[.int .i64 0, .int .i64 0, .int .i64 0]) (t := 23) ?hr ?_; (case hd => rfl); (case hg => rfl); (case hr => first | (go_simp; done) | (go_simp; rfl)); intro gb419 hg w25 hbox hb; have n0_ := Aside0.mk (Kd.R_below (by (with_reducible repeat (first | apply Kd.R_alloc | apply Kd.R_drewN | apply Kd.R_drew)); exact HO_11.out) hb); have n1_ := Aside0.mk (Kd.R_below (by (with_reducible repeat (first | apply Kd.R_alloc | apply Kd.R_drewN | apply Kd.R_drew)); exact HO_14.out) hb); have n2_ := Aside0.mk (below_step (by repeat (first | (with_reducible first | exact HB.out | apply below_alloc | apply pw_below_drewN | apply below_drew1) | exact HB.out)) hb); have n3_ := Aside0.mk (hbox); have n4_ := Aside0.mk ((by rw [hg]; exact (below_size (by repeat (first | (with_reducible first | exact HB.out | apply below_alloc | apply pw_below_drewN | apply below_drew1) | exact HB.out))) : w.heap.size ≤ gb419)); have n5_ := Aside0.mk ((by rw [hg]; exact (below_size (by repeat (first | (with_reducible first | exact HB.out | apply below_alloc | apply pw_below_drewN | apply below_drew1) | exact HB.out))) : w.heap.size ≤ gb419)); clear HO_11; clear HO_14; clear HB; have HO_11 := n0_; have HO_14 := n1_; have HB := n2_; have BK419 := n3_; have GW419 := n4_; have GE419 := n5_; clear n0_ n1_ n2_ n3_ n4_ n5_; clear hb hbox hg; have hcz26_0 : w25.cell? ⟨gb419, 0, none⟩ = some (.int .i64 0) := (blk_cell BK419.out 0).trans rfl; have hcz26_1 : w25.cell? ⟨gb419, 1, none⟩ = some (.int .i64 0) := (blk_cell BK419.out 1).trans rfl; have hcz26_2 : w25.cell? ⟨gb419, 2, none⟩ = some (.int .i64 0) := (blk_cell BK419.out 2).trans rfl; have hfz26_0 := blk_frozen BK419.out 0; have hfz26_1 := blk_frozen BK419.out 1; have hfz26_2 := blk_frozen BK419.out 2))
                                go_roundg k4
                                case measure => have := HJ5.out; have := HJ12.out; have := HK3.out; have := HK4.out; omega
                                case rel => exact ⟨((((rd_T23 l2 x74_4).f0) == x16_3)), (wrap64 (x74_4 + 1)), (by first | rfl | (simp; done) | (simp [*]; done)), (by first | rfl | (simp; done) | (simp [*]; done)), H', ⟨by have := HJ5.out; have := HJ12.out; have := HK3.out; have := HK4.out; omega⟩, ⟨by (with_reducible repeat (first | apply Kd.R_alloc | apply Kd.R_drewN | apply Kd.R_drew)); exact Kd.R_mono (Kd.R_far (p := ⟨gb419, 2, none⟩) (Kd.R_far (p := ⟨gb419, 1, none⟩) (Kd.R_far (p := ⟨gb419, 0, none⟩) (Kd.R_types HO_11.out BK419.out (by decide)) (fun _ hk => hk.2) (.int .i64 ((rd_T23 l2 x74_4).f0))) (fun _ hk => hk.2) (.int .i64 ((rd_T23 l2 x74_4).f1))) (fun _ hk => hk.2) (.int .i64 ((rd_T23 l2 x74_4).f2))) (fun _ hk => hk.1)⟩, ⟨by (with_reducible repeat (first | apply Kd.R_alloc | apply Kd.R_drewN | apply Kd.R_drew)); exact Kd.R_mono (Kd.R_far (p := ⟨gb419, 2, none⟩) (Kd.R_far (p := ⟨gb419, 1, none⟩) (Kd.R_far (p := ⟨gb419, 0, none⟩) (Kd.R_types HO_14.out BK419.out (by decide)) (fun _ hk => hk.2) (.int .i64 ((rd_T23 l2 x74_4).f0))) (fun _ hk => hk.2) (.int .i64 ((rd_T23 l2 x74_4).f1))) (fun _ hk => hk.2) (.int .i64 ((rd_T23 l2 x74_4).f2))) (fun _ hk => hk.1)⟩, ⟨by repeat (first | (with_reducible first | exact HB.out | apply below_alloc | apply pw_below_drewN | apply below_drew1 | refine below_set ?_ GE419.out) | exact HB.out)⟩⟩
                            · rw [if_neg c21] at H
                              exact absurd H (by simp)
                          · rw [if_neg c20] at H
                            exact absurd H (by simp)
                        · rw [if_neg c19] at H
                          have c19b0 : decide (x74_4 < (l2.length : Int)) = false := decide_eq_false c19
                          clear c19
                          have H' := Aside0.mk H
                          clear H
                          go_wp2
                          go_loopg [17, 88] k4 (fun kq v17 v88 w' => ∃ (x17_5 : Bool) (x88_5 : Int), v17 = .bool x17_5 ∧ v88 = .int .i64 x88_5 ∧ Aside0 (cohousinglaw22_LotteryRefusals.l2 kq l0 l2 l3 x9_3 t408 t409 t413 t414 x16_3 x17_5 false false l3 (l3.length : Int) x88_5 = some r) ∧ Aside0 (kq ≤ k4) ∧ Aside0 (Kd.R (Kd.int .i64) 3 w' w.heap.size (fun k_ => some k_ ≠ (v416 : Value).ownBlock) v411 t409) ∧ Aside0 (Kd.R (Kd.int .i64) 3 w' w.heap.size (fun k_ => some k_ ≠ (v411 : Value).ownBlock) v416 t414) ∧ Aside0 (Below w.heap.size w w'))
                          case atStart => exact ⟨(x17_4), (0), (by first | rfl | (simp; done) | (simp [*]; done)), (by first | rfl | (simp; done) | (simp [*]; done)), H', ⟨Nat.le_refl _⟩, ⟨by (with_reducible repeat (first | apply Kd.R_alloc | apply Kd.R_drewN | apply Kd.R_drew)); exact HO_11.out⟩, ⟨by (with_reducible repeat (first | apply Kd.R_alloc | apply Kd.R_drewN | apply Kd.R_drew)); exact HO_14.out⟩, ⟨by repeat (first | (with_reducible first | exact HB.out | apply below_alloc | apply pw_below_drewN | apply below_drew1) | exact HB.out)⟩⟩
                          case round =>
                            clear H'
                            try clear c1
                            try clear c2
                            try clear p2
                            try clear c3
                            try clear p4
                            try clear q4
                            try clear hx4
                            try clear p6
                            try clear c8
                            try clear c8b0
                            try clear c8b1
                            try clear c9
                            try clear c9b0
                            try clear c9b1
                            try clear c10
                            try clear c16
                            try clear c16b0
                            try clear c16b1
                            try clear c17
                            try clear c18
                            try clear c18b0
                            try clear c19
                            try clear c19b0
                            try clear c20
                            try clear c20b0
                            try clear c21
                            try clear c21b0
                            try clear c22
                            try clear hcz24_0
                            try clear hcz24_1
                            try clear hcz24_2
                            try clear hcz26_0
                            try clear hcz26_1
                            try clear hcz26_2
                            try clear hfz24_0
                            try clear hfz24_1
                            try clear hfz24_2
                            try clear hfz26_0
                            try clear hfz26_1
                            try clear hfz26_2
                            try clear hx418_0
                            try clear hx418_1
                            try clear hx418_2
                            try clear p2
                            try clear p418
                            try clear q418
                            obtain ⟨x17_5, x88_5, rfl, rfl, HA, HK5, HO_11, HO_14, HB⟩ := hrel
                            cases gk with
                            | zero => exact absurd HA.out (by simp [cohousinglaw22_LotteryRefusals.l2])
                            | succ k5 =>
                              have H := HA.out
                              clear HA
                              simp only [cohousinglaw22_LotteryRefusals.l2] at H
                              by_cases c27 : x88_5 < (l3.length : Int)
                              · rw [if_pos c27] at H
                                have c27b0 : decide (x88_5 < (l3.length : Int)) = true := decide_eq_true c27
                                clear c27
                                by_cases c28 : 0 ≤ x88_5
                                · rw [if_pos c28] at H
                                  have c28b0 : decide (0 ≤ x88_5) = true := decide_eq_true c28
                                  clear c28
                                  by_cases c29 : x88_5 < (l3.length : Int)
                                  · rw [if_pos c29] at H
                                    have c29b0 : decide (x88_5 < (l3.length : Int)) = true := decide_eq_true c29
                                    clear c29
                                    by_cases c30 : x17_5 = true
                                    · subst c30
                                      have H1 : (cohousinglaw22_LotteryRefusals.l2 k5 l0 l2 l3 x9_3 t408 t409 t413 t414 x16_3 true false false l3 (l3.length : Int) (wrap64 (x88_5 + 1))) = some r := by rw [if_pos rfl] at H; exact H
                                      clear H
                                      have H := H1
                                      clear H1
                                      have H' := Aside0.mk H
                                      clear H
                                      have p420 : 0 ≤ (x88_5 : Int) := of_decide_eq_true (by first | (with_reducible assumption) | assumption)
                                      have q420 : x88_5 < (l3.length : Int) := of_decide_eq_true (by first | (with_reducible assumption) | assumption)
                                      obtain ⟨ad420, e420, hx420_0, hx420_1, hx420_2⟩ := at_T23 HR3.out x88_5 p420 q420
                                      cases e420
                                      replace hx420_0 := (HB.out.cell (World.block_lt_of_cell? w _ hx420_0)).trans hx420_0
                                      replace hx420_1 := (HB.out.cell (World.block_lt_of_cell? w _ hx420_1)).trans hx420_1
                                      replace hx420_2 := (HB.out.cell (World.block_lt_of_cell? w _ hx420_2)).trans hx420_2
                                      replace p420 := eq_true p420
                                      replace q420 := eq_true q420
                                      go_wp2_with (first | ((with_reducible refine gate_dst (N := 23) rfl ?_); (try (refine gate_guard (by rfl) ?_; dsimp only)); refine box_event ?hg (N := 23) ?hd (cs := #[.int .i64 0, .int .i64 0, .int .i64 0]) (t := 23) ?hr ?_; (case hd => rfl); (case hg => rfl); (case hr => first | (go_simp; done) | (go_simp; rfl)); intro gb421 hg w31 hbox hb; have n0_ := Aside0.mk (Kd.R_below (by (with_reducible repeat (first | apply Kd.R_alloc | apply Kd.R_drewN | apply Kd.R_drew)); exact HO_11.out) hb); have n1_ := Aside0.mk (Kd.R_below (by (with_reducible repeat (first | apply Kd.R_alloc | apply Kd.R_drewN | apply Kd.R_drew)); exact HO_14.out) hb); have n2_ := Aside0.mk (below_step (by repeat (first | (with_reducible first | exact HB.out | apply below_alloc | apply pw_below_drewN | apply below_drew1) | exact HB.out)) hb); have n3_ := Aside0.mk (hbox); have n4_ := Aside0.mk ((by rw [hg]; exact (below_size (by repeat (first | (with_reducible first | exact HB.out | apply below_alloc | apply pw_below_drewN | apply below_drew1) | exact HB.out))) : w.heap.size ≤ gb421)); have n5_ := Aside0.mk ((by rw [hg]; exact (below_size (by repeat (first | (with_reducible first | exact HB.out | apply below_alloc | apply pw_below_drewN | apply below_drew1) | exact HB.out))) : w.heap.size ≤ gb421)); clear HO_11; clear HO_14; clear HB; have HO_11 := n0_; have HO_14 := n1_; have HB := n2_; have BK421 := n3_; have GW421 := n4_; have GE421 := n5_; clear n0_ n1_ n2_ n3_ n4_ n5_; clear hb hbox hg; have hcz32_0 : w31.cell? ⟨gb421, 0, none⟩ = some (.int .i64 0) := (blk_cell BK421.out 0).trans rfl; have hcz32_1 : w31.cell? ⟨gb421, 1, none⟩ = some (.int .i64 0) := (blk_cell BK421.out 1).trans rfl; have hcz32_2 : w31.cell? ⟨gb421, 2, none⟩ = some (.int .i64 0) := (blk_cell BK421.out 2).trans rfl; have hfz32_0 := blk_frozen BK421.out 0; have hfz32_1 := blk_frozen BK421.out 1; have hfz32_2 := blk_frozen BK421.out 2))
                                      go_roundg k5
                                      case measure => have := HJ5.out; have := HJ12.out; have := HK3.out; have := HK4.out; have := HK5.out; omega
                                      case rel => exact ⟨(true), (wrap64 (x88_5 + 1)), (by first | rfl | (simp; done) | (simp [*]; done)), (by first | rfl | (simp; done) | (simp [*]; done)), H', ⟨by have := HJ5.out; have := HJ12.out; have := HK3.out; have := HK4.out; have := HK5.out; omega⟩, ⟨by (with_reducible repeat (first | apply Kd.R_alloc | apply Kd.R_drewN | apply Kd.R_drew)); exact Kd.R_mono (Kd.R_far (p := ⟨gb421, 2, none⟩) (Kd.R_far (p := ⟨gb421, 1, none⟩) (Kd.R_far (p := ⟨gb421, 0, none⟩) (Kd.R_types HO_11.out BK421.out (by decide)) (fun _ hk => hk.2) (.int .i64 ((rd_T23 l3 x88_5).f0))) (fun _ hk => hk.2) (.int .i64 ((rd_T23 l3 x88_5).f1))) (fun _ hk => hk.2) (.int .i64 ((rd_T23 l3 x88_5).f2))) (fun _ hk => hk.1)⟩, ⟨by (with_reducible repeat (first | apply Kd.R_alloc | apply Kd.R_drewN | apply Kd.R_drew)); exact Kd.R_mono (Kd.R_far (p := ⟨gb421, 2, none⟩) (Kd.R_far (p := ⟨gb421, 1, none⟩) (Kd.R_far (p := ⟨gb421, 0, none⟩) (Kd.R_types HO_14.out BK421.out (by decide)) (fun _ hk => hk.2) (.int .i64 ((rd_T23 l3 x88_5).f0))) (fun _ hk => hk.2) (.int .i64 ((rd_T23 l3 x88_5).f1))) (fun _ hk => hk.2) (.int .i64 ((rd_T23 l3 x88_5).f2))) (fun _ hk => hk.1)⟩, ⟨by repeat (first | (with_reducible first | exact HB.out | apply below_alloc | apply pw_below_drewN | apply below_drew1 | refine below_set ?_ GE421.out) | exact HB.out)⟩⟩
                                    · replace c30 := Bool.eq_false_iff.mpr c30
                                      subst c30
                                      have H1 : (cohousinglaw22_LotteryRefusals.l2 k5 l0 l2 l3 x9_3 t408 t409 t413 t414 x16_3 (((rd_T23 l3 x88_5).f0) == x16_3) false false l3 (l3.length : Int) (wrap64 (x88_5 + 1))) = some r := by rw [if_neg (show ¬ (false = true) by decide)] at H; exact H
                                      clear H
                                      have H := H1
                                      clear H1
                                      have H' := Aside0.mk H
                                      clear H
                                      have p420 : 0 ≤ (x88_5 : Int) := of_decide_eq_true (by first | (with_reducible assumption) | assumption)
                                      have q420 : x88_5 < (l3.length : Int) := of_decide_eq_true (by first | (with_reducible assumption) | assumption)
                                      obtain ⟨ad420, e420, hx420_0, hx420_1, hx420_2⟩ := at_T23 HR3.out x88_5 p420 q420
                                      cases e420
                                      replace hx420_0 := (HB.out.cell (World.block_lt_of_cell? w _ hx420_0)).trans hx420_0
                                      replace hx420_1 := (HB.out.cell (World.block_lt_of_cell? w _ hx420_1)).trans hx420_1
                                      replace hx420_2 := (HB.out.cell (World.block_lt_of_cell? w _ hx420_2)).trans hx420_2
                                      replace p420 := eq_true p420
                                      replace q420 := eq_true q420
                                      go_wp2_with (first | ((with_reducible refine gate_dst (N := 23) rfl ?_); (try (refine gate_guard (by rfl) ?_; dsimp only)); refine box_event ?hg (N := 23) ?hd (cs := #[.int .i64 0, .int .i64 0, .int .i64 0]) (t := 23) ?hr ?_; (case hd => rfl); (case hg => rfl); (case hr => first | (go_simp; done) | (go_simp; rfl)); intro gb421 hg w33 hbox hb; have n0_ := Aside0.mk (Kd.R_below (by (with_reducible repeat (first | apply Kd.R_alloc | apply Kd.R_drewN | apply Kd.R_drew)); exact HO_11.out) hb); have n1_ := Aside0.mk (Kd.R_below (by (with_reducible repeat (first | apply Kd.R_alloc | apply Kd.R_drewN | apply Kd.R_drew)); exact HO_14.out) hb); have n2_ := Aside0.mk (below_step (by repeat (first | (with_reducible first | exact HB.out | apply below_alloc | apply pw_below_drewN | apply below_drew1) | exact HB.out)) hb); have n3_ := Aside0.mk (hbox); have n4_ := Aside0.mk ((by rw [hg]; exact (below_size (by repeat (first | (with_reducible first | exact HB.out | apply below_alloc | apply pw_below_drewN | apply below_drew1) | exact HB.out))) : w.heap.size ≤ gb421)); have n5_ := Aside0.mk ((by rw [hg]; exact (below_size (by repeat (first | (with_reducible first | exact HB.out | apply below_alloc | apply pw_below_drewN | apply below_drew1) | exact HB.out))) : w.heap.size ≤ gb421)); clear HO_11; clear HO_14; clear HB; have HO_11 := n0_; have HO_14 := n1_; have HB := n2_; have BK421 := n3_; have GW421 := n4_; have GE421 := n5_; clear n0_ n1_ n2_ n3_ n4_ n5_; clear hb hbox hg; have hcz34_0 : w33.cell? ⟨gb421, 0, none⟩ = some (.int .i64 0) := (blk_cell BK421.out 0).trans rfl; have hcz34_1 : w33.cell? ⟨gb421, 1, none⟩ = some (.int .i64 0) := (blk_cell BK421.out 1).trans rfl; have hcz34_2 : w33.cell? ⟨gb421, 2, none⟩ = some (.int .i64 0) := (blk_cell BK421.out 2).trans rfl; have hfz34_0 := blk_frozen BK421.out 0; have hfz34_1 := blk_frozen BK421.out 1; have hfz34_2 := blk_frozen BK421.out 2))
                                      go_roundg k5
                                      case measure => have := HJ5.out; have := HJ12.out; have := HK3.out; have := HK4.out; have := HK5.out; omega
                                      case rel => exact ⟨((((rd_T23 l3 x88_5).f0) == x16_3)), (wrap64 (x88_5 + 1)), (by first | rfl | (simp; done) | (simp [*]; done)), (by first | rfl | (simp; done) | (simp [*]; done)), H', ⟨by have := HJ5.out; have := HJ12.out; have := HK3.out; have := HK4.out; have := HK5.out; omega⟩, ⟨by (with_reducible repeat (first | apply Kd.R_alloc | apply Kd.R_drewN | apply Kd.R_drew)); exact Kd.R_mono (Kd.R_far (p := ⟨gb421, 2, none⟩) (Kd.R_far (p := ⟨gb421, 1, none⟩) (Kd.R_far (p := ⟨gb421, 0, none⟩) (Kd.R_types HO_11.out BK421.out (by decide)) (fun _ hk => hk.2) (.int .i64 ((rd_T23 l3 x88_5).f0))) (fun _ hk => hk.2) (.int .i64 ((rd_T23 l3 x88_5).f1))) (fun _ hk => hk.2) (.int .i64 ((rd_T23 l3 x88_5).f2))) (fun _ hk => hk.1)⟩, ⟨by (with_reducible repeat (first | apply Kd.R_alloc | apply Kd.R_drewN | apply Kd.R_drew)); exact Kd.R_mono (Kd.R_far (p := ⟨gb421, 2, none⟩) (Kd.R_far (p := ⟨gb421, 1, none⟩) (Kd.R_far (p := ⟨gb421, 0, none⟩) (Kd.R_types HO_14.out BK421.out (by decide)) (fun _ hk => hk.2) (.int .i64 ((rd_T23 l3 x88_5).f0))) (fun _ hk => hk.2) (.int .i64 ((rd_T23 l3 x88_5).f1))) (fun _ hk => hk.2) (.int .i64 ((rd_T23 l3 x88_5).f2))) (fun _ hk => hk.1)⟩, ⟨by repeat (first | (with_reducible first | exact HB.out | apply below_alloc | apply pw_below_drewN | apply below_drew1 | refine below_set ?_ GE421.out) | exact HB.out)⟩⟩
                                  · rw [if_neg c29] at H
                                    exact absurd H (by simp)
                                · rw [if_neg c28] at H
                                  exact absurd H (by simp)
                              · rw [if_neg c27] at H
                                have c27b0 : decide (x88_5 < (l3.length : Int)) = false := decide_eq_false c27
                                clear c27
                                have H' := Aside0.mk H
                                clear H
                                obtain ⟨Ao35, co35, eo35⟩ := Kd.R_slice HO_11.out
                                subst eo35
                                go_wp2
                                go_loopg [18, 102] k5 (fun kq v18 v102 w' => ∃ (x18_6 : Bool) (x102_6 : Int), v18 = .bool x18_6 ∧ v102 = .int .i64 x102_6 ∧ Aside0 (cohousinglaw22_LotteryRefusals.l3 kq l0 l2 l3 x9_3 t408 t409 t413 t414 x16_3 x17_5 x18_6 false t409 (t409.length : Int) x102_6 = some r) ∧ Aside0 (kq ≤ k5) ∧ Aside0 (Kd.R (Kd.int .i64) 3 w' w.heap.size (fun k_ => some k_ ≠ (v416 : Value).ownBlock) (.slice Ao35 t409.length co35) t409) ∧ Aside0 (Kd.R (Kd.int .i64) 3 w' w.heap.size (fun k_ => some k_ ≠ ((.slice Ao35 t409.length co35) : Value).ownBlock ∧ some k_ ≠ ((.slice Ao35 t409.length co35) : Value).ownBlock) v416 t414) ∧ Aside0 (Kd.R (Kd.int .i64) 3 w' w.heap.size (fun k_ => some k_ ≠ (v416 : Value).ownBlock) (.slice Ao35 t409.length co35) t409) ∧ Aside0 (Below w.heap.size w w'))
                                case atStart => exact ⟨(false), (0), (by first | rfl | (simp; done) | (simp [*]; done)), (by first | rfl | (simp; done) | (simp [*]; done)), H', ⟨Nat.le_refl _⟩, ⟨by (with_reducible repeat (first | apply Kd.R_alloc | apply Kd.R_drewN | apply Kd.R_drew)); exact HO_11.out⟩, ⟨by (with_reducible repeat (first | apply Kd.R_alloc | apply Kd.R_drewN | apply Kd.R_drew)); exact Kd.R_mono HO_14.out (fun _ hk => ⟨hk, hk⟩)⟩, ⟨by (with_reducible repeat (first | apply Kd.R_alloc | apply Kd.R_drewN | apply Kd.R_drew)); exact HO_11.out⟩, ⟨by repeat (first | (with_reducible first | exact HB.out | apply below_alloc | apply pw_below_drewN | apply below_drew1) | exact HB.out)⟩⟩
                                case round =>
                                  clear H'
                                  try clear c1
                                  try clear c2
                                  try clear p2
                                  try clear c3
                                  try clear p4
                                  try clear q4
                                  try clear hx4
                                  try clear p6
                                  try clear c8
                                  try clear c8b0
                                  try clear c8b1
                                  try clear c9
                                  try clear c9b0
                                  try clear c9b1
                                  try clear c10
                                  try clear c16
                                  try clear c16b0
                                  try clear c16b1
                                  try clear c17
                                  try clear c18
                                  try clear c18b0
                                  try clear c19
                                  try clear c19b0
                                  try clear c20
                                  try clear c20b0
                                  try clear c21
                                  try clear c21b0
                                  try clear c22
                                  try clear c27
                                  try clear c27b0
                                  try clear c28
                                  try clear c28b0
                                  try clear c29
                                  try clear c29b0
                                  try clear c30
                                  try clear hcz24_0
                                  try clear hcz24_1
                                  try clear hcz24_2
                                  try clear hcz26_0
                                  try clear hcz26_1
                                  try clear hcz26_2
                                  try clear hcz32_0
                                  try clear hcz32_1
                                  try clear hcz32_2
                                  try clear hcz34_0
                                  try clear hcz34_1
                                  try clear hcz34_2
                                  try clear hfz24_0
                                  try clear hfz24_1
                                  try clear hfz24_2
                                  try clear hfz26_0
                                  try clear hfz26_1
                                  try clear hfz26_2
                                  try clear hfz32_0
                                  try clear hfz32_1
                                  try clear hfz32_2
                                  try clear hfz34_0
                                  try clear hfz34_1
                                  try clear hfz34_2
                                  try clear hx418_0
                                  try clear hx418_1
                                  try clear hx418_2
                                  try clear hx420_0
                                  try clear hx420_1
                                  try clear hx420_2
                                  try clear p2
                                  try clear p4
                                  try clear p418
                                  try clear p420
                                  try clear p6
                                  try clear q4
                                  try clear q418
                                  try clear q420
                                  obtain ⟨x18_6, x102_6, rfl, rfl, HA, HK6, HO_11, HO_14, HO_100, HB⟩ := hrel
                                  cases gk with
                                  | zero => exact absurd HA.out (by simp [cohousinglaw22_LotteryRefusals.l3])
                                  | succ k6 =>
                                    have H := HA.out
                                    clear HA
                                    simp only [cohousinglaw22_LotteryRefusals.l3] at H
                                    by_cases c36 : x102_6 < (t409.length : Int)
                                    · rw [if_pos c36] at H
                                      have c36b0 : decide (x102_6 < (t409.length : Int)) = true := decide_eq_true c36
                                      clear c36
                                      by_cases c37 : 0 ≤ x102_6
                                      · rw [if_pos c37] at H
                                        have c37b0 : decide (0 ≤ x102_6) = true := decide_eq_true c37
                                        clear c37
                                        by_cases c38 : x102_6 < (t409.length : Int)
                                        · rw [if_pos c38] at H
                                          have c38b0 : decide (x102_6 < (t409.length : Int)) = true := decide_eq_true c38
                                          clear c38
                                          by_cases c39 : x18_6 = true
                                          · subst c39
                                            have H1 : (cohousinglaw22_LotteryRefusals.l3 k6 l0 l2 l3 x9_3 t408 t409 t413 t414 x16_3 x17_5 true false t409 (t409.length : Int) (wrap64 (x102_6 + 1))) = some r := by rw [if_pos rfl] at H; exact H
                                            clear H
                                            have H := H1
                                            clear H1
                                            have H' := Aside0.mk H
                                            clear H
                                            have p422 : 0 ≤ (x102_6 : Int) := of_decide_eq_true (by first | (with_reducible assumption) | assumption)
                                            have q422 : x102_6 < (t409.length : Int) := of_decide_eq_true (by first | (with_reducible assumption) | assumption)
                                            obtain ⟨ad422, e422, hx422_0⟩ := Kd.at_int (Kd.R_reads' HO_100.out).2.2 x102_6 p422 q422
                                            cases e422
                                            replace p422 := eq_true p422
                                            replace q422 := eq_true q422
                                            go_wp2
                                            go_roundg k6
                                            case measure => have := HJ5.out; have := HJ12.out; have := HK3.out; have := HK4.out; have := HK5.out; have := HK6.out; omega
                                            case rel => exact ⟨(true), (wrap64 (x102_6 + 1)), (by first | rfl | (simp; done) | (simp [*]; done)), (by first | rfl | (simp; done) | (simp [*]; done)), H', ⟨by have := HJ5.out; have := HJ12.out; have := HK3.out; have := HK4.out; have := HK5.out; have := HK6.out; omega⟩, ⟨by (with_reducible repeat (first | apply Kd.R_alloc | apply Kd.R_drewN | apply Kd.R_drew)); exact HO_11.out⟩, ⟨by (with_reducible repeat (first | apply Kd.R_alloc | apply Kd.R_drewN | apply Kd.R_drew)); exact HO_14.out⟩, ⟨by (with_reducible repeat (first | apply Kd.R_alloc | apply Kd.R_drewN | apply Kd.R_drew)); exact HO_100.out⟩, ⟨by repeat (first | (with_reducible first | exact HB.out | apply below_alloc | apply pw_below_drewN | apply below_drew1) | exact HB.out)⟩⟩
                                          · replace c39 := Bool.eq_false_iff.mpr c39
                                            subst c39
                                            have H1 : (cohousinglaw22_LotteryRefusals.l3 k6 l0 l2 l3 x9_3 t408 t409 t413 t414 x16_3 x17_5 ((rd t409 x102_6) == x16_3) false t409 (t409.length : Int) (wrap64 (x102_6 + 1))) = some r := by rw [if_neg (show ¬ (false = true) by decide)] at H; exact H
                                            clear H
                                            have H := H1
                                            clear H1
                                            have H' := Aside0.mk H
                                            clear H
                                            have p422 : 0 ≤ (x102_6 : Int) := of_decide_eq_true (by first | (with_reducible assumption) | assumption)
                                            have q422 : x102_6 < (t409.length : Int) := of_decide_eq_true (by first | (with_reducible assumption) | assumption)
                                            obtain ⟨ad422, e422, hx422_0⟩ := Kd.at_int (Kd.R_reads' HO_100.out).2.2 x102_6 p422 q422
                                            cases e422
                                            replace p422 := eq_true p422
                                            replace q422 := eq_true q422
                                            go_wp2
                                            go_roundg k6
                                            case measure => have := HJ5.out; have := HJ12.out; have := HK3.out; have := HK4.out; have := HK5.out; have := HK6.out; omega
                                            case rel => exact ⟨(((rd t409 x102_6) == x16_3)), (wrap64 (x102_6 + 1)), (by first | rfl | (simp; done) | (simp [*]; done)), (by first | rfl | (simp; done) | (simp [*]; done)), H', ⟨by have := HJ5.out; have := HJ12.out; have := HK3.out; have := HK4.out; have := HK5.out; have := HK6.out; omega⟩, ⟨by (with_reducible repeat (first | apply Kd.R_alloc | apply Kd.R_drewN | apply Kd.R_drew)); exact HO_11.out⟩, ⟨by (with_reducible repeat (first | apply Kd.R_alloc | apply Kd.R_drewN | apply Kd.R_drew)); exact HO_14.out⟩, ⟨by (with_reducible repeat (first | apply Kd.R_alloc | apply Kd.R_drewN | apply Kd.R_drew)); exact HO_100.out⟩, ⟨by repeat (first | (with_reducible first | exact HB.out | apply below_alloc | apply pw_below_drewN | apply below_drew1) | exact HB.out)⟩⟩
                                        · rw [if_neg c38] at H
                                          exact absurd H (by simp)
                                      · rw [if_neg c37] at H
                                        exact absurd H (by simp)
                                    · rw [if_neg c36] at H
                                      have c36b0 : decide (x102_6 < (t409.length : Int)) = false := decide_eq_false c36
                                      clear c36
                                      have H' := Aside0.mk H
                                      clear H
                                      obtain ⟨Ao40, co40, eo40⟩ := Kd.R_slice HO_14.out
                                      subst eo40
                                      go_wp2
                                      go_loopg [19, 115] k6 (fun kq v19 v115 w' => ∃ (x19_7 : Bool) (x115_7 : Int), v19 = .bool x19_7 ∧ v115 = .int .i64 x115_7 ∧ Aside0 (cohousinglaw22_LotteryRefusals.l4 kq l0 l2 l3 x9_3 t408 t409 t413 t414 x16_3 x17_5 x18_6 x19_7 t414 (t414.length : Int) x115_7 = some r) ∧ Aside0 (kq ≤ k6) ∧ Aside0 (Kd.R (Kd.int .i64) 3 w' w.heap.size (fun k_ => some k_ ≠ ((.slice Ao40 t414.length co40) : Value).ownBlock ∧ some k_ ≠ ((.slice Ao40 t414.length co40) : Value).ownBlock) (.slice Ao35 t409.length co35) t409) ∧ Aside0 (Kd.R (Kd.int .i64) 3 w' w.heap.size (fun k_ => some k_ ≠ ((.slice Ao35 t409.length co35) : Value).ownBlock) (.slice Ao40 t414.length co40) t414) ∧ Aside0 (Kd.R (Kd.int .i64) 3 w' w.heap.size (fun k_ => some k_ ≠ ((.slice Ao35 t409.length co35) : Value).ownBlock) (.slice Ao40 t414.length co40) t414) ∧ Aside0 (Below w.heap.size w w'))
                                      case atStart => exact ⟨(false), (0), (by first | rfl | (simp; done) | (simp [*]; done)), (by first | rfl | (simp; done) | (simp [*]; done)), H', ⟨Nat.le_refl _⟩, ⟨by (with_reducible repeat (first | apply Kd.R_alloc | apply Kd.R_drewN | apply Kd.R_drew)); exact Kd.R_mono HO_11.out (fun _ hk => ⟨hk, hk⟩)⟩, ⟨by (with_reducible repeat (first | apply Kd.R_alloc | apply Kd.R_drewN | apply Kd.R_drew)); exact Kd.R_mono HO_14.out (fun _ hk => hk.1)⟩, ⟨by (with_reducible repeat (first | apply Kd.R_alloc | apply Kd.R_drewN | apply Kd.R_drew)); exact Kd.R_mono HO_14.out (fun _ hk => hk.1)⟩, ⟨by repeat (first | (with_reducible first | exact HB.out | apply below_alloc | apply pw_below_drewN | apply below_drew1) | exact HB.out)⟩⟩
                                      case round =>
                                        clear H'
                                        try clear c1
                                        try clear c2
                                        try clear p2
                                        try clear c3
                                        try clear p4
                                        try clear q4
                                        try clear hx4
                                        try clear p6
                                        try clear c8
                                        try clear c8b0
                                        try clear c8b1
                                        try clear c9
                                        try clear c9b0
                                        try clear c9b1
                                        try clear c10
                                        try clear c16
                                        try clear c16b0
                                        try clear c16b1
                                        try clear c17
                                        try clear c18
                                        try clear c18b0
                                        try clear c19
                                        try clear c19b0
                                        try clear c20
                                        try clear c20b0
                                        try clear c21
                                        try clear c21b0
                                        try clear c22
                                        try clear c27
                                        try clear c27b0
                                        try clear c28
                                        try clear c28b0
                                        try clear c29
                                        try clear c29b0
                                        try clear c30
                                        try clear c36
                                        try clear c36b0
                                        try clear c37
                                        try clear c37b0
                                        try clear c38
                                        try clear c38b0
                                        try clear c39
                                        try clear hcz24_0
                                        try clear hcz24_1
                                        try clear hcz24_2
                                        try clear hcz26_0
                                        try clear hcz26_1
                                        try clear hcz26_2
                                        try clear hcz32_0
                                        try clear hcz32_1
                                        try clear hcz32_2
                                        try clear hcz34_0
                                        try clear hcz34_1
                                        try clear hcz34_2
                                        try clear hfz24_0
                                        try clear hfz24_1
                                        try clear hfz24_2
                                        try clear hfz26_0
                                        try clear hfz26_1
                                        try clear hfz26_2
                                        try clear hfz32_0
                                        try clear hfz32_1
                                        try clear hfz32_2
                                        try clear hfz34_0
                                        try clear hfz34_1
                                        try clear hfz34_2
                                        try clear hx418_0
                                        try clear hx418_1
                                        try clear hx418_2
                                        try clear hx420_0
                                        try clear hx420_1
                                        try clear hx420_2
                                        try clear hx422_0
                                        try clear p2
                                        try clear p4
                                        try clear p418
                                        try clear p420
                                        try clear p422
                                        try clear p6
                                        try clear q4
                                        try clear q418
                                        try clear q420
                                        try clear q422
                                        obtain ⟨x19_7, x115_7, rfl, rfl, HA, HK7, HO_11, HO_14, HO_113, HB⟩ := hrel
                                        cases gk with
                                        | zero => exact absurd HA.out (by simp [cohousinglaw22_LotteryRefusals.l4])
                                        | succ k7 =>
                                          have H := HA.out
                                          clear HA
                                          simp only [cohousinglaw22_LotteryRefusals.l4] at H
                                          by_cases c41 : x115_7 < (t414.length : Int)
                                          · rw [if_pos c41] at H
                                            have c41b0 : decide (x115_7 < (t414.length : Int)) = true := decide_eq_true c41
                                            clear c41
                                            by_cases c42 : 0 ≤ x115_7
                                            · rw [if_pos c42] at H
                                              have c42b0 : decide (0 ≤ x115_7) = true := decide_eq_true c42
                                              clear c42
                                              by_cases c43 : x115_7 < (t414.length : Int)
                                              · rw [if_pos c43] at H
                                                have c43b0 : decide (x115_7 < (t414.length : Int)) = true := decide_eq_true c43
                                                clear c43
                                                by_cases c44 : x19_7 = true
                                                · subst c44
                                                  have H1 : (cohousinglaw22_LotteryRefusals.l4 k7 l0 l2 l3 x9_3 t408 t409 t413 t414 x16_3 x17_5 x18_6 true t414 (t414.length : Int) (wrap64 (x115_7 + 1))) = some r := by rw [if_pos rfl] at H; exact H
                                                  clear H
                                                  have H := H1
                                                  clear H1
                                                  have H' := Aside0.mk H
                                                  clear H
                                                  have p423 : 0 ≤ (x115_7 : Int) := of_decide_eq_true (by first | (with_reducible assumption) | assumption)
                                                  have q423 : x115_7 < (t414.length : Int) := of_decide_eq_true (by first | (with_reducible assumption) | assumption)
                                                  obtain ⟨ad423, e423, hx423_0⟩ := Kd.at_int (Kd.R_reads' HO_113.out).2.2 x115_7 p423 q423
                                                  cases e423
                                                  replace p423 := eq_true p423
                                                  replace q423 := eq_true q423
                                                  go_wp2
                                                  go_roundg k7
                                                  case measure => have := HJ5.out; have := HJ12.out; have := HK3.out; have := HK4.out; have := HK5.out; have := HK6.out; have := HK7.out; omega
                                                  case rel => exact ⟨(true), (wrap64 (x115_7 + 1)), (by first | rfl | (simp; done) | (simp [*]; done)), (by first | rfl | (simp; done) | (simp [*]; done)), H', ⟨by have := HJ5.out; have := HJ12.out; have := HK3.out; have := HK4.out; have := HK5.out; have := HK6.out; have := HK7.out; omega⟩, ⟨by (with_reducible repeat (first | apply Kd.R_alloc | apply Kd.R_drewN | apply Kd.R_drew)); exact HO_11.out⟩, ⟨by (with_reducible repeat (first | apply Kd.R_alloc | apply Kd.R_drewN | apply Kd.R_drew)); exact HO_14.out⟩, ⟨by (with_reducible repeat (first | apply Kd.R_alloc | apply Kd.R_drewN | apply Kd.R_drew)); exact HO_113.out⟩, ⟨by repeat (first | (with_reducible first | exact HB.out | apply below_alloc | apply pw_below_drewN | apply below_drew1) | exact HB.out)⟩⟩
                                                · replace c44 := Bool.eq_false_iff.mpr c44
                                                  subst c44
                                                  have H1 : (cohousinglaw22_LotteryRefusals.l4 k7 l0 l2 l3 x9_3 t408 t409 t413 t414 x16_3 x17_5 x18_6 ((rd t414 x115_7) == x16_3) t414 (t414.length : Int) (wrap64 (x115_7 + 1))) = some r := by rw [if_neg (show ¬ (false = true) by decide)] at H; exact H
                                                  clear H
                                                  have H := H1
                                                  clear H1
                                                  have H' := Aside0.mk H
                                                  clear H
                                                  have p423 : 0 ≤ (x115_7 : Int) := of_decide_eq_true (by first | (with_reducible assumption) | assumption)
                                                  have q423 : x115_7 < (t414.length : Int) := of_decide_eq_true (by first | (with_reducible assumption) | assumption)
                                                  obtain ⟨ad423, e423, hx423_0⟩ := Kd.at_int (Kd.R_reads' HO_113.out).2.2 x115_7 p423 q423
                                                  cases e423
                                                  replace p423 := eq_true p423
                                                  replace q423 := eq_true q423
                                                  go_wp2
                                                  go_roundg k7
                                                  case measure => have := HJ5.out; have := HJ12.out; have := HK3.out; have := HK4.out; have := HK5.out; have := HK6.out; have := HK7.out; omega
                                                  case rel => exact ⟨(((rd t414 x115_7) == x16_3)), (wrap64 (x115_7 + 1)), (by first | rfl | (simp; done) | (simp [*]; done)), (by first | rfl | (simp; done) | (simp [*]; done)), H', ⟨by have := HJ5.out; have := HJ12.out; have := HK3.out; have := HK4.out; have := HK5.out; have := HK6.out; have := HK7.out; omega⟩, ⟨by (with_reducible repeat (first | apply Kd.R_alloc | apply Kd.R_drewN | apply Kd.R_drew)); exact HO_11.out⟩, ⟨by (with_reducible repeat (first | apply Kd.R_alloc | apply Kd.R_drewN | apply Kd.R_drew)); exact HO_14.out⟩, ⟨by (with_reducible repeat (first | apply Kd.R_alloc | apply Kd.R_drewN | apply Kd.R_drew)); exact HO_113.out⟩, ⟨by repeat (first | (with_reducible first | exact HB.out | apply below_alloc | apply pw_below_drewN | apply below_drew1) | exact HB.out)⟩⟩
                                              · rw [if_neg c43] at H
                                                exact absurd H (by simp)
                                            · rw [if_neg c42] at H
                                              exact absurd H (by simp)
                                          · rw [if_neg c41] at H
                                            have c41b0 : decide (x115_7 < (t414.length : Int)) = false := decide_eq_false c41
                                            clear c41
                                            by_cases c45 : x9_3 = true
                                            · subst c45
                                              have H1 : (if x17_5 = true then (cohousinglaw22_LotteryRefusals.l0 k7 l0 l2 l3 true t408 t409 t413 t414 (wrap64 (x16_3 + 1))) else (cohousinglaw22_LotteryRefusals.l0 k7 l0 l2 l3 (x18_6 == x19_7) t408 t409 t413 t414 (wrap64 (x16_3 + 1)))) = some r := by rw [if_pos rfl] at H; exact H
                                              clear H
                                              have H := H1
                                              clear H1
                                              by_cases c46 : x17_5 = true
                                              · subst c46
                                                have H1 : (cohousinglaw22_LotteryRefusals.l0 k7 l0 l2 l3 true t408 t409 t413 t414 (wrap64 (x16_3 + 1))) = some r := by rw [if_pos rfl] at H; exact H
                                                clear H
                                                have H := H1
                                                clear H1
                                                have H' := Aside0.mk H
                                                clear H
                                                go_wp2
                                                go_roundg k7
                                                case measure => have := HJ5.out; have := HJ12.out; have := HK3.out; have := HK4.out; have := HK5.out; have := HK6.out; have := HK7.out; omega
                                                case rel => exact ⟨(true), (wrap64 (x16_3 + 1)), (by first | rfl | (simp; done) | (simp [*]; done)), (by first | rfl | (simp; done) | (simp [*]; done)), H', ⟨by have := HJ5.out; have := HJ12.out; have := HK3.out; have := HK4.out; have := HK5.out; have := HK6.out; have := HK7.out; omega⟩, ⟨by (with_reducible repeat (first | apply Kd.R_alloc | apply Kd.R_drewN | apply Kd.R_drew)); exact Kd.R_mono HO_11.out (fun _ hk => hk.1)⟩, ⟨by (with_reducible repeat (first | apply Kd.R_alloc | apply Kd.R_drewN | apply Kd.R_drew)); exact HO_14.out⟩, ⟨by repeat (first | (with_reducible first | exact HB.out | apply below_alloc | apply pw_below_drewN | apply below_drew1) | exact HB.out)⟩⟩
                                              · replace c46 := Bool.eq_false_iff.mpr c46
                                                subst c46
                                                have H1 : (cohousinglaw22_LotteryRefusals.l0 k7 l0 l2 l3 (x18_6 == x19_7) t408 t409 t413 t414 (wrap64 (x16_3 + 1))) = some r := by rw [if_neg (show ¬ (false = true) by decide)] at H; exact H
                                                clear H
                                                have H := H1
                                                clear H1
                                                have H' := Aside0.mk H
                                                clear H
                                                go_wp2
                                                go_roundg k7
                                                case measure => have := HJ5.out; have := HJ12.out; have := HK3.out; have := HK4.out; have := HK5.out; have := HK6.out; have := HK7.out; omega
                                                case rel => exact ⟨((x18_6 == x19_7)), (wrap64 (x16_3 + 1)), (by first | rfl | (simp; done) | (simp [*]; done)), (by first | rfl | (simp; done) | (simp [*]; done)), H', ⟨by have := HJ5.out; have := HJ12.out; have := HK3.out; have := HK4.out; have := HK5.out; have := HK6.out; have := HK7.out; omega⟩, ⟨by (with_reducible repeat (first | apply Kd.R_alloc | apply Kd.R_drewN | apply Kd.R_drew)); exact Kd.R_mono HO_11.out (fun _ hk => hk.1)⟩, ⟨by (with_reducible repeat (first | apply Kd.R_alloc | apply Kd.R_drewN | apply Kd.R_drew)); exact HO_14.out⟩, ⟨by repeat (first | (with_reducible first | exact HB.out | apply below_alloc | apply pw_below_drewN | apply below_drew1) | exact HB.out)⟩⟩
                                            · replace c45 := Bool.eq_false_iff.mpr c45
                                              subst c45
                                              have H1 : (cohousinglaw22_LotteryRefusals.l0 k7 l0 l2 l3 false t408 t409 t413 t414 (wrap64 (x16_3 + 1))) = some r := by rw [if_neg (show ¬ (false = true) by decide)] at H; exact H
                                              clear H
                                              have H := H1
                                              clear H1
                                              have H' := Aside0.mk H
                                              clear H
                                              go_wp2
                                              go_roundg k7
                                              case measure => have := HJ5.out; have := HJ12.out; have := HK3.out; have := HK4.out; have := HK5.out; have := HK6.out; have := HK7.out; omega
                                              case rel => exact ⟨(false), (wrap64 (x16_3 + 1)), (by first | rfl | (simp; done) | (simp [*]; done)), (by first | rfl | (simp; done) | (simp [*]; done)), H', ⟨by have := HJ5.out; have := HJ12.out; have := HK3.out; have := HK4.out; have := HK5.out; have := HK6.out; have := HK7.out; omega⟩, ⟨by (with_reducible repeat (first | apply Kd.R_alloc | apply Kd.R_drewN | apply Kd.R_drew)); exact Kd.R_mono HO_11.out (fun _ hk => hk.1)⟩, ⟨by (with_reducible repeat (first | apply Kd.R_alloc | apply Kd.R_drewN | apply Kd.R_drew)); exact HO_14.out⟩, ⟨by repeat (first | (with_reducible first | exact HB.out | apply below_alloc | apply pw_below_drewN | apply below_drew1) | exact HB.out)⟩⟩
                  · rw [if_neg c18] at H
                    have c18b0 : decide (x16_3 ≤ (l0.length : Int)) = false := decide_eq_false c18
                    clear c18
                    by_cases c47 : x9_3 = true
                    · subst c47
                      have H1 : (some (t408 == t413)) = some r := by rw [if_pos rfl] at H; exact H
                      clear H
                      have H := H1
                      clear H1
                      obtain rfl := Option.some.inj H
                      go_wp2
                      go_ret
                      exact ⟨by first | rfl | (simp [errW_none, errW_some] <;> rfl) | (simp [*, errW_none, errW_some] <;> rfl), by repeat (first | (with_reducible first | exact HB.out | apply below_alloc | apply pw_below_drewN | apply below_drew1) | exact HB.out)⟩
                    · replace c47 := Bool.eq_false_iff.mpr c47
                      subst c47
                      have H1 : (some false) = some r := by rw [if_neg (show ¬ (false = true) by decide)] at H; exact H
                      clear H
                      have H := H1
                      clear H1
                      obtain rfl := Option.some.inj H
                      go_wp2
                      go_ret
                      exact ⟨by first | rfl | (simp [errW_none, errW_some] <;> rfl) | (simp [*, errW_none, errW_some] <;> rfl), by repeat (first | (with_reducible first | exact HB.out | apply below_alloc | apply pw_below_drewN | apply below_drew1) | exact HB.out)⟩

end Go.Proofs.YtfkeelccnomjkaaDoor.P
