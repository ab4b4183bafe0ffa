/- What a law computes, and that it computes it: its Lean form and its contract, as the kit's print.py wrote them for this seat; the contract's conditions stand in its statement. -/
import Derived.Test.YtfkeelccnomjkaaDoorPRA
import Derived.Test.YtfkeelccnomjkaaDoorGSum
import Derived.Test.YtfkeelccnomjkaaDoorPRB
import Derived.Test.YtfkeelccnomjkaaDoorGHead
namespace Go.Proofs.YtfkeelccnomjkaaDoor.P
open Go.RowKit Go.Proofs.YtfkeelccnomjkaaDoorW.PrintWords Go.Proofs.YtfkeelccnomjkaaDoorW.PrintLast Go.Proofs.YtfkeelccnomjkaaDoorW.PrintMore
attribute [local go_sem] max2_int min2_int max_two min_two max_three min_three max_four min_four   -- for this text's walks alone
set_option linter.unusedVariables false
set_option linter.unusedSimpArgs false

/-! ### cohousinglaw22_LotteryLots: function 9 -/
mutual
def cohousinglaw22_LotteryLots.j0 : Nat → Int → Bool → List Int → Int → Bool → Option (Bool)
  | 0, _, _, _, _, _ => none
  | k + 1, x1, x5, x6, x7, x31 => if x31 = true then (if x5 = true then (if x7 = 1 then (some ((x6.length : Int) == 0)) else (some false)) else (some false)) else (if 65 ≤ 281474976710656 then (cohousinglaw22_LotteryLots.l0 k x1 x5 x6 x7 (List.replicate 65 false) x6 (x6.length : Int) 0) else (none))
def cohousinglaw22_LotteryLots.l0 : Nat → Int → Bool → List Int → Int → List Bool → List Int → Int → Int → Option (Bool)
  | 0, _, _, _, _, _, _, _, _ => none
  | k + 1, x1, x5, x6, x7, x8, x43, x44, x45 => if x45 < x44 then (if 0 ≤ x45 then (if x45 < (x43.length : Int) then (if (rd x43 x45) < 1 then (some false) else (if (rd x43 x45) > x1 then (some false) else (if 0 ≤ (rd x43 x45) then (if (rd x43 x45) < (x8.length : Int) then (if rdOf false x8 (rd x43 x45) = true then (some false) else (cohousinglaw22_LotteryLots.l0 k x1 x5 x6 x7 (x8.set ((rd x43 x45) : Int).toNat true) x43 x44 (wrap64 (x45 + 1)))) else (none)) else (none)))) else (none)) else (none)) else (if x5 = true then (if x7 = 0 then (some ((x6.length : Int) == x1)) else (some false)) else (some false))
end
def cohousinglaw22_LotteryLots.f (k : Nat) (a0 : Int) (a1 : Int) : Option (Bool) := (cohousinglaw22_head.f).bind fun t312 => ((lottery_Lots.f k a0 a1).bind fun bt313 => (if a0 < 0 then (cohousinglaw22_LotteryLots.j0 k a1 t312 bt313.1 bt313.2 true) else (if a0 ≥ 1073741789 then (cohousinglaw22_LotteryLots.j0 k a1 t312 bt313.1 bt313.2 true) else (if a1 < 0 then (cohousinglaw22_LotteryLots.j0 k a1 t312 bt313.1 bt313.2 true) else (cohousinglaw22_LotteryLots.j0 k a1 t312 bt313.1 bt313.2 (decide (a1 > 64)))))))
theorem cohousinglaw22_LotteryLots.mono_l : ∀ k, (∀ y0 y1 y2 y3 y4, LeO (cohousinglaw22_LotteryLots.j0 k y0 y1 y2 y3 y4) (cohousinglaw22_LotteryLots.j0 (k + 1) y0 y1 y2 y3 y4)) ∧ (∀ y0 y1 y2 y3 y4 y5 y6 y7, LeO (cohousinglaw22_LotteryLots.l0 k y0 y1 y2 y3 y4 y5 y6 y7) (cohousinglaw22_LotteryLots.l0 (k + 1) y0 y1 y2 y3 y4 y5 y6 y7))
  | 0 => ⟨fun _ _ _ _ _ r h => by simp [cohousinglaw22_LotteryLots.j0] at h, fun _ _ _ _ _ _ _ _ r h => by simp [cohousinglaw22_LotteryLots.l0] at h⟩
  | k + 1 => by
    obtain ⟨ih0, ih1⟩ := cohousinglaw22_LotteryLots.mono_l k
    refine ⟨?_, ?_⟩
    · intro y0 y1 y2 y3 y4
      unfold cohousinglaw22_LotteryLots.j0
      repeat' first
      | (with_reducible exact ih0 _ _ _ _ _)
      | (with_reducible exact ih1 _ _ _ _ _ _ _ _)
      | (with_reducible exact lottery_Lots.mono _ _ _)
      | (with_reducible exact LeO.refl _)
      | (with_reducible exact LeO.none _)
      | (with_reducible refine LeO.ite ?_ ?_)
      | (with_reducible refine LeO.bind ?_ (fun _ => ?_))
      | exact ih0 _ _ _ _ _
      | exact ih1 _ _ _ _ _ _ _ _
      | exact lottery_Lots.mono _ _ _
      | exact LeO.none _
      | refine LeO.ite ?_ ?_
      | refine LeO.bind ?_ (fun _ => ?_)
    · intro y0 y1 y2 y3 y4 y5 y6 y7
      unfold cohousinglaw22_LotteryLots.l0
      repeat' first
      | (with_reducible exact ih0 _ _ _ _ _)
      | (with_reducible exact ih1 _ _ _ _ _ _ _ _)
      | (with_reducible exact lottery_Lots.mono _ _ _)
      | (with_reducible exact LeO.refl _)
      | (with_reducible exact LeO.none _)
      | (with_reducible refine LeO.ite ?_ ?_)
      | (with_reducible refine LeO.bind ?_ (fun _ => ?_))
      | exact ih0 _ _ _ _ _
      | exact ih1 _ _ _ _ _ _ _ _
      | exact lottery_Lots.mono _ _ _
      | exact LeO.none _
      | refine LeO.ite ?_ ?_
      | refine LeO.bind ?_ (fun _ => ?_)
theorem cohousinglaw22_LotteryLots.mono : ∀ a0 a1 k, LeO (cohousinglaw22_LotteryLots.f k a0 a1) (cohousinglaw22_LotteryLots.f (k + 1) a0 a1) := by
  intro a0 a1 k
  obtain ⟨ih0, ih1⟩ := cohousinglaw22_LotteryLots.mono_l k
  unfold cohousinglaw22_LotteryLots.f
  repeat' first
      | (with_reducible exact ih0 _ _ _ _ _)
      | (with_reducible exact ih1 _ _ _ _ _ _ _ _)
      | (with_reducible exact lottery_Lots.mono _ _ _)
      | (with_reducible exact LeO.refl _)
      | (with_reducible exact LeO.none _)
      | (with_reducible refine LeO.ite ?_ ?_)
      | (with_reducible refine LeO.bind ?_ (fun _ => ?_))
      | exact ih0 _ _ _ _ _
      | exact ih1 _ _ _ _ _ _ _ _
      | exact lottery_Lots.mono _ _ _
      | exact LeO.none _
      | refine LeO.ite ?_ ?_
      | refine LeO.bind ?_ (fun _ => ?_)
set_option maxHeartbeats 8000000 in
set_option maxRecDepth 100000 in
theorem cohousinglaw22_LotteryLots.calls (k : Nat) (a0 : Int) (a1 : Int) (r : Bool) (w : World) (h : cohousinglaw22_LotteryLots.f k a0 a1 = some r) (hgl : Gl w) :
    Calls Tryd.prog 9 #[.int .i64 a0, .int .i64 a1] w fun e w' => e = .returned (.bool r) ∧ Below w.heap.size w w' := by
  have HGL := Aside0.mk hgl
  clear hgl
  have HB := Aside0.mk (Below.refl w.heap.size w)
  have H : ((cohousinglaw22_head.f).bind fun t312 => ((lottery_Lots.f k a0 a1).bind fun bt313 => (if a0 < 0 then (cohousinglaw22_LotteryLots.j0 k a1 t312 bt313.1 bt313.2 true) else (if a0 ≥ 1073741789 then (cohousinglaw22_LotteryLots.j0 k a1 t312 bt313.1 bt313.2 true) else (if a1 < 0 then (cohousinglaw22_LotteryLots.j0 k a1 t312 bt313.1 bt313.2 true) else (cohousinglaw22_LotteryLots.j0 k a1 t312 bt313.1 bt313.2 (decide (a1 > 64)))))))) = some r := h
  clear h
  replace H := Option.bind_eq_some_iff.mp H
  obtain ⟨t312, A30, H⟩ := H
  replace H : ((lottery_Lots.f k a0 a1).bind fun bt313 => (if a0 < 0 then (cohousinglaw22_LotteryLots.j0 k a1 t312 bt313.1 bt313.2 true) else (if a0 ≥ 1073741789 then (cohousinglaw22_LotteryLots.j0 k a1 t312 bt313.1 bt313.2 true) else (if a1 < 0 then (cohousinglaw22_LotteryLots.j0 k a1 t312 bt313.1 bt313.2 true) else (cohousinglaw22_LotteryLots.j0 k a1 t312 bt313.1 bt313.2 (decide (a1 > 64))))))) = some r := H
  have A3 := Aside0.mk A30
  clear A30
  replace H := Option.bind_eq_some_iff.mp H
  obtain ⟨⟨t313, t314⟩, A40, H⟩ := H
  replace H : (if a0 < 0 then (cohousinglaw22_LotteryLots.j0 k a1 t312 t313 t314 true) else (if a0 ≥ 1073741789 then (cohousinglaw22_LotteryLots.j0 k a1 t312 t313 t314 true) else (if a1 < 0 then (cohousinglaw22_LotteryLots.j0 k a1 t312 t313 t314 true) else (cohousinglaw22_LotteryLots.j0 k a1 t312 t313 t314 (decide (a1 > 64)))))) = some r := H
  have A4 := Aside0.mk A40
  clear A40
  have HC5 := Aside0.mk H
  clear H
  go_enter Tryd.func9, Tryd.ntmps9
  go_upto_region 3 with (first | ((with_reducible refine gate_callee (f := 10) rfl ?_); refine goesL_ (some 11) rfl rfl Tryd.func10 (by kernel_rfl) rfl #[] rfl (by (try simp only [List.map_toArray, List.map_cons, List.map_nil]); first | done | rfl | (simp only [List.length_drop, List.length_take]; rfl)) ?_; (with_reducible refine (cohousinglaw22_head.calls  t312 _ A3.out ?gl).mono ?_); (case gl => refine HGL.out.below ?_; repeat (first | (with_reducible first | exact HB.out | apply below_alloc | apply pw_below_drewN | apply below_drew1) | exact HB.out)); rintro e w6 ⟨rfl, hb⟩; refine ⟨_, rfl, ?_⟩; have n0_ := Aside0.mk (below_step (by repeat (first | (with_reducible first | exact HB.out | apply below_alloc | apply pw_below_drewN | apply below_drew1) | exact HB.out)) hb); clear HB; have HB := n0_; clear n0_; (try clear hb); (try clear hb2); (try clear hk); (try clear hi)) | ((with_reducible refine gate_callee (f := 19) rfl ?_); refine goesL_ (some 15) rfl rfl Tryd.func19 (by kernel_rfl) rfl #[.int .i64 a0, .int .i64 a1] rfl (by (try simp only [List.map_toArray, List.map_cons, List.map_nil]); first | done | rfl | (simp only [List.length_drop, List.length_take]; rfl)) ?_; (with_reducible refine (lottery_Lots.calls k a0 a1 t313 t314 _ A4.out).mono ?_); rintro e w7 ⟨v315, rfl, ho0, hb⟩; refine ⟨_, rfl, ?_⟩; have n0_ := Aside0.mk (Kd.R_lower ho0 (below_size (by repeat (first | (with_reducible first | exact HB.out | apply below_alloc | apply pw_below_drewN | apply below_drew1) | exact HB.out)))); have n1_ := Aside0.mk (below_step (by repeat (first | (with_reducible first | exact HB.out | apply below_alloc | apply pw_below_drewN | apply below_drew1) | exact HB.out)) hb); clear HB; have HO316 := n0_; have HB := n1_; clear n0_ n1_; (try clear hb); (try clear hb2); (try clear hk); (try clear hi); (try clear ho0)))
  (try simp only [Act.put, List.setIfInBounds_toArray, List.set_cons_zero, List.set_cons_succ])
  go_cut [31] (fun v31 wc => ∃ (kq : Nat) (x31_4 : Bool), v31 = .bool x31_4 ∧ Aside0 (cohousinglaw22_LotteryLots.j0 kq a1 t312 t313 t314 x31_4 = some r) ∧ Aside0 (kq ≤ k) ∧ Aside0 (Kd.R (Kd.int .i64) 3 wc w.heap.size (fun _ => True) v315 t313) ∧ Aside0 (Below w.heap.size w wc))
  case first =>
    have H := HC5.out
    clear HC5
    by_cases c8 : a0 < 0
    · rw [if_pos c8] at H
      have c8b0 : decide (a0 < 0) = true := decide_eq_true c8
      clear c8
      (first | rw [c8b0] | (simp only [i64_w, i32_w]; rw [c8b0]) | skip)
      have H' := Aside0.mk H
      clear H
      go_wp2
      go_meet
      case rel => exact ⟨_, (true), (by first | rfl | (simp; done) | (simp [*]; done)), H', ⟨by first | omega | exact Nat.le_refl _⟩, ⟨by (with_reducible repeat (first | apply Kd.R_alloc | apply Kd.R_drewN | apply Kd.R_drew)); exact HO316.out⟩, ⟨by repeat (first | (with_reducible first | exact HB.out | apply below_alloc | apply pw_below_drewN | apply below_drew1) | exact HB.out)⟩⟩
    · rw [if_neg c8] at H
      have c8b0 : decide (a0 < 0) = false := decide_eq_false c8
      clear c8
      (first | rw [c8b0] | (simp only [i64_w, i32_w]; rw [c8b0]) | skip)
      by_cases c9 : a0 ≥ 1073741789
      · rw [if_pos c9] at H
        have c9b0 : decide (1073741789 ≤ a0) = true := decide_eq_true c9
        clear c9
        have H' := Aside0.mk H
        clear H
        go_wp2
        go_meet
        case rel => exact ⟨_, (true), (by first | rfl | (simp; done) | (simp [*]; done)), H', ⟨by first | omega | exact Nat.le_refl _⟩, ⟨by (with_reducible repeat (first | apply Kd.R_alloc | apply Kd.R_drewN | apply Kd.R_drew)); exact HO316.out⟩, ⟨by repeat (first | (with_reducible first | exact HB.out | apply below_alloc | apply pw_below_drewN | apply below_drew1) | exact HB.out)⟩⟩
      · rw [if_neg c9] at H
        have c9b0 : decide (1073741789 ≤ a0) = false := decide_eq_false c9
        clear c9
        by_cases c10 : a1 < 0
        · rw [if_pos c10] at H
          have c10b0 : decide (a1 < 0) = true := decide_eq_true c10
          clear c10
          have H' := Aside0.mk H
          clear H
          go_wp2
          go_meet
          case rel => exact ⟨_, (true), (by first | rfl | (simp; done) | (simp [*]; done)), H', ⟨by first | omega | exact Nat.le_refl _⟩, ⟨by (with_reducible repeat (first | apply Kd.R_alloc | apply Kd.R_drewN | apply Kd.R_drew)); exact HO316.out⟩, ⟨by repeat (first | (with_reducible first | exact HB.out | apply below_alloc | apply pw_below_drewN | apply below_drew1) | exact HB.out)⟩⟩
        · rw [if_neg c10] at H
          have c10b0 : decide (a1 < 0) = false := decide_eq_false c10
          clear c10
          have H' := Aside0.mk H
          clear H
          go_wp2
          go_meet
          case rel => exact ⟨_, (decide (a1 > 64)), (by first | rfl | (simp; done) | (simp [*]; done)), H', ⟨by first | omega | exact Nat.le_refl _⟩, ⟨by (with_reducible repeat (first | apply Kd.R_alloc | apply Kd.R_drewN | apply Kd.R_drew)); exact HO316.out⟩, ⟨by repeat (first | (with_reducible first | exact HB.out | apply below_alloc | apply pw_below_drewN | apply below_drew1) | exact HB.out)⟩⟩
  case rest =>
    clear HC5
    try clear c1
    try clear p2
    try clear c8
    try clear c8b0
    try clear c9
    try clear c9b0
    try clear c10
    try clear c10b0
    obtain ⟨kq, x31_4, rfl, HA, HJ4, HO_6, HB⟩ := hcut
    cases kq with
    | zero => exact absurd HA.out (by simp [cohousinglaw22_LotteryLots.j0])
    | succ kj4 =>
      have H := HA.out
      clear HA
      simp only [cohousinglaw22_LotteryLots.j0] at H
      by_cases c11 : x31_4 = true
      · subst c11
        have H1 : (if t312 = true then (if t314 = 1 then (some ((t313.length : Int) == 0)) else (some false)) else (some false)) = some r := by rw [if_pos rfl] at H; exact H
        clear H
        have H := H1
        clear H1
        by_cases c12 : t312 = true
        · subst c12
          have H1 : (if t314 = 1 then (some ((t313.length : Int) == 0)) else (some false)) = some r := by rw [if_pos rfl] at H; exact H
          clear H
          have H := H1
          clear H1
          by_cases c13 : t314 = 1
          · rw [if_pos c13] at H
            have c13b0 : (t314 == 1) = true := beq_iff_eq.mpr c13
            have c13b1 : (t314 != 1) = false := bne_eq_false_iff_eq.mpr c13
            clear c13
            obtain rfl := Option.some.inj H
            obtain ⟨Ao14, co14, eo14⟩ := Kd.R_slice HO_6.out
            subst eo14
            go_wp2
            go_ret
            exact ⟨by first | rfl | (simp [errW_none, errW_some] <;> rfl) | (simp [*, errW_none, errW_some] <;> rfl), by repeat (first | (with_reducible first | exact HB.out | apply below_alloc | apply pw_below_drewN | apply below_drew1) | exact HB.out)⟩
          · rw [if_neg c13] at H
            have c13b0 : (t314 == 1) = false := beq_eq_false_iff_ne.mpr c13
            have c13b1 : (t314 != 1) = true := bne_iff_ne.mpr c13
            obtain rfl := Option.some.inj H
            go_wp2
            go_ret
            exact ⟨by first | rfl | (simp [errW_none, errW_some] <;> rfl) | (simp [*, errW_none, errW_some] <;> rfl), by repeat (first | (with_reducible first | exact HB.out | apply below_alloc | apply pw_below_drewN | apply below_drew1) | exact HB.out)⟩
        · replace c12 := Bool.eq_false_iff.mpr c12
          subst c12
          have H1 : (some false) = some r := by rw [if_neg (show ¬ (false = true) by decide)] at H; exact H
          clear H
          have H := H1
          clear H1
          obtain rfl := Option.some.inj H
          go_wp2
          go_ret
          exact ⟨by first | rfl | (simp [errW_none, errW_some] <;> rfl) | (simp [*, errW_none, errW_some] <;> rfl), by repeat (first | (with_reducible first | exact HB.out | apply below_alloc | apply pw_below_drewN | apply below_drew1) | exact HB.out)⟩
      · replace c11 := Bool.eq_false_iff.mpr c11
        subst c11
        have H1 : (if 65 ≤ 281474976710656 then (cohousinglaw22_LotteryLots.l0 kj4 a1 t312 t313 t314 (List.replicate 65 false) t313 (t313.length : Int) 0) else (none)) = some r := by rw [if_neg (show ¬ (false = true) by decide)] at H; exact H
        clear H
        have H := H1
        clear H1
        by_cases c15 : 65 ≤ 281474976710656
        · rw [if_pos c15] at H
          have c15b0 := eq_true c15
          have c15b1 : decide (65 ≤ 281474976710656) = true := decide_eq_true c15
          clear c15
          obtain ⟨y317, hy317⟩ : ∃ y_ : List Bool, y_ = (List.replicate 65 false) := ⟨_, rfl⟩
          replace H : (cohousinglaw22_LotteryLots.l0 kj4 a1 t312 t313 t314 y317 t313 (t313.length : Int) 0) = some r := by first | (rw [hy317]; with_reducible exact H) | (have H2_ := (Option.bind_some _ _).symm.trans H; rw [hy317]; with_reducible exact H2_) | (have H2_ := (Option.bind_some _ _).symm.trans H; with_reducible exact H2_) | with_reducible exact H | (rw [hy317]; exact H) | exact H
          have Ny317 := Aside0.mk hy317
          clear hy317
          have H' := Aside0.mk H
          clear H
          go_wp2_with (first | ((with_reducible refine gate_dst (N := 42) rfl ?_); (try (refine gate_guard (by rfl) ?_; dsimp only)); refine Kd.R_make Kd.bool _ 4 rfl (N := 42) rfl 62 _ _ rfl 65 rfl rfl Tryd.underlying62 (.bool false) 1 info4 rfl (by decide) (by omega) false (ok := fun _ => True) (okp := fun _ => True) rfl (fun _ hk => hk) trivial (by omega) (by omega) (Below.refl _ _) (Nat.le_refl _) ?_; intro v318 w16 ho17 hb hg_ hnew_; clear hg_ hnew_; (first | rw [← Ny317.out] at ho17 | (simp only [Int.reduceToNat] at ho17; rw [← Ny317.out] at ho17)); have n0_ := Aside0.mk (Kd.R_below (by (with_reducible repeat (first | apply Kd.R_alloc | apply Kd.R_drewN | apply Kd.R_drew)); exact HO_6.out) hb); have n1_ := Aside0.mk (Kd.R_lower ho17 (below_size (by repeat (first | (with_reducible first | exact HB.out | apply below_alloc | apply pw_below_drewN | apply below_drew1) | exact HB.out)))); have n2_ := Aside0.mk (below_step (by repeat (first | (with_reducible first | exact HB.out | apply below_alloc | apply pw_below_drewN | apply below_drew1) | exact HB.out)) hb); clear HO_6; clear HB; have HO_6 := n0_; have HO319 := n1_; have HB := n2_; clear n0_ n1_ n2_; clear hb ho17; obtain ⟨Ao18, co18, eo18⟩ := Kd.R_slice HO_6.out; subst eo18))
          go_loopg [45] kj4 (fun kq v45 w' => ∃ (x8_2 : List Bool) (x45_2 : Int), v45 = .int .i64 x45_2 ∧ Aside0 (cohousinglaw22_LotteryLots.l0 kq a1 t312 t313 t314 x8_2 t313 (t313.length : Int) x45_2 = some r) ∧ Aside0 (kq ≤ kj4) ∧ Aside0 (Kd.R (Kd.int .i64) 3 w' w.heap.size (fun _ => True) (.slice Ao18 t313.length co18) t313) ∧ Aside0 (Kd.R Kd.bool 4 w' w.heap.size (fun _ => True) v318 x8_2) ∧ Aside0 (Kd.R (Kd.int .i64) 3 w' w.heap.size (fun _ => True) (.slice Ao18 t313.length co18) t313) ∧ Aside0 (Below w.heap.size w w'))
          case atStart => exact ⟨(y317), (0), (by first | rfl | (simp; done) | (simp [*]; done)), H', ⟨Nat.le_refl _⟩, ⟨by (with_reducible repeat (first | apply Kd.R_alloc | apply Kd.R_drewN | apply Kd.R_drew)); exact HO_6.out⟩, ⟨by (with_reducible repeat (first | apply Kd.R_alloc | apply Kd.R_drewN | apply Kd.R_drew)); exact HO319.out⟩, ⟨by (with_reducible repeat (first | apply Kd.R_alloc | apply Kd.R_drewN | apply Kd.R_drew)); exact HO_6.out⟩, ⟨by repeat (first | (with_reducible first | exact HB.out | apply below_alloc | apply pw_below_drewN | apply below_drew1) | exact HB.out)⟩⟩
          case round =>
            clear H'
            try clear c1
            try clear p2
            try clear c8
            try clear c8b0
            try clear c9
            try clear c9b0
            try clear c10
            try clear c10b0
            try clear c11
            try clear c12
            try clear c13
            try clear c13b0
            try clear c13b1
            try clear c15
            try clear c15b0
            try clear c15b1
            try clear p2
            obtain ⟨x8_2, x45_2, rfl, HA, HK2, HO_6, HO_8, HO_43, HB⟩ := hrel
            cases gk with
            | zero => exact absurd HA.out (by simp [cohousinglaw22_LotteryLots.l0])
            | succ k2 =>
              have H := HA.out
              clear HA
              simp only [cohousinglaw22_LotteryLots.l0] at H
              by_cases c19 : x45_2 < (t313.length : Int)
              · rw [if_pos c19] at H
                have c19b0 : decide (x45_2 < (t313.length : Int)) = true := decide_eq_true c19
                clear c19
                by_cases c20 : 0 ≤ x45_2
                · rw [if_pos c20] at H
                  have c20b0 : decide (0 ≤ x45_2) = true := decide_eq_true c20
                  clear c20
                  by_cases c21 : x45_2 < (t313.length : Int)
                  · rw [if_pos c21] at H
                    have c21b0 : decide (x45_2 < (t313.length : Int)) = true := decide_eq_true c21
                    clear c21
                    by_cases c22 : (rd t313 x45_2) < 1
                    · rw [if_pos c22] at H
                      have c22b0 : decide ((rd t313 x45_2) < 1) = true := decide_eq_true c22
                      clear c22
                      obtain rfl := Option.some.inj H
                      have p320 : 0 ≤ (x45_2 : Int) := of_decide_eq_true (by first | (with_reducible assumption) | assumption)
                      have q320 : x45_2 < (t313.length : Int) := of_decide_eq_true (by first | (with_reducible assumption) | assumption)
                      obtain ⟨ad320, e320, hx320_0⟩ := Kd.at_int (Kd.R_reads' HO_43.out).2.2 x45_2 p320 q320
                      cases e320
                      replace p320 := eq_true p320
                      replace q320 := eq_true q320
                      go_wp2
                      go_ret
                      exact ⟨by first | rfl | (simp [errW_none, errW_some] <;> rfl) | (simp [*, errW_none, errW_some] <;> rfl), by repeat (first | (with_reducible first | exact HB.out | apply below_alloc | apply pw_below_drewN | apply below_drew1) | exact HB.out)⟩
                    · rw [if_neg c22] at H
                      have c22b0 : decide ((rd t313 x45_2) < 1) = false := decide_eq_false c22
                      clear c22
                      by_cases c23 : (rd t313 x45_2) > a1
                      · rw [if_pos c23] at H
                        have c23b0 : decide (a1 < (rd t313 x45_2)) = true := decide_eq_true c23
                        clear c23
                        obtain rfl := Option.some.inj H
                        have p320 : 0 ≤ (x45_2 : Int) := of_decide_eq_true (by first | (with_reducible assumption) | assumption)
                        have q320 : x45_2 < (t313.length : Int) := of_decide_eq_true (by first | (with_reducible assumption) | assumption)
                        obtain ⟨ad320, e320, hx320_0⟩ := Kd.at_int (Kd.R_reads' HO_43.out).2.2 x45_2 p320 q320
                        cases e320
                        replace p320 := eq_true p320
                        replace q320 := eq_true q320
                        go_wp2
                        go_ret
                        exact ⟨by first | rfl | (simp [errW_none, errW_some] <;> rfl) | (simp [*, errW_none, errW_some] <;> rfl), by repeat (first | (with_reducible first | exact HB.out | apply below_alloc | apply pw_below_drewN | apply below_drew1) | exact HB.out)⟩
                      · rw [if_neg c23] at H
                        have c23b0 : decide (a1 < (rd t313 x45_2)) = false := decide_eq_false c23
                        clear c23
                        by_cases c24 : 0 ≤ (rd t313 x45_2)
                        · rw [if_pos c24] at H
                          have c24b0 : decide (0 ≤ (rd t313 x45_2)) = true := decide_eq_true c24
                          clear c24
                          by_cases c25 : (rd t313 x45_2) < (x8_2.length : Int)
                          · rw [if_pos c25] at H
                            have c25b0 : decide ((rd t313 x45_2) < (x8_2.length : Int)) = true := decide_eq_true c25
                            clear c25
                            obtain ⟨bq26, hbq26⟩ : ∃ b_ : Bool, b_ = (rdOf false x8_2 (rd t313 x45_2)) := ⟨_, rfl⟩
                            replace H : (if bq26 = true then (some false) else (cohousinglaw22_LotteryLots.l0 k2 a1 t312 t313 t314 (x8_2.set ((rd t313 x45_2) : Int).toNat true) t313 (t313.length : Int) (wrap64 (x45_2 + 1)))) = some r := by rw [← hbq26] at H; exact H
                            have Nbq26 := Aside0.mk hbq26
                            clear hbq26
                            by_cases c27 : bq26 = true
                            · subst c27
                              have H1 : (some false) = some r := by rw [if_pos rfl] at H; exact H
                              clear H
                              have H := H1
                              clear H1
                              obtain rfl := Option.some.inj H
                              have p320 : 0 ≤ (x45_2 : Int) := of_decide_eq_true (by first | (with_reducible assumption) | assumption)
                              have q320 : x45_2 < (t313.length : Int) := of_decide_eq_true (by first | (with_reducible assumption) | assumption)
                              obtain ⟨ad320, e320, hx320_0⟩ := Kd.at_int (Kd.R_reads' HO_43.out).2.2 x45_2 p320 q320
                              cases e320
                              replace p320 := eq_true p320
                              replace q320 := eq_true q320
                              obtain ⟨Ao28, co28, eo28⟩ := Kd.R_slice HO_8.out
                              subst eo28
                              have p321 : 0 ≤ ((rd t313 x45_2) : Int) := of_decide_eq_true (by first | (with_reducible assumption) | assumption)
                              have q321 : (rd t313 x45_2) < (x8_2.length : Int) := of_decide_eq_true (by first | (with_reducible assumption) | assumption)
                              obtain ⟨ad321, e321, hx321_0⟩ := Kd.at_bool (Kd.R_reads' HO_8.out).2.2 (rd t313 x45_2) p321 q321
                              (try rw [← Nbq26.out] at hx321_0)
                              cases e321
                              replace p321 := eq_true p321
                              replace q321 := eq_true q321
                              go_wp2
                              go_ret
                              exact ⟨by first | rfl | (simp [errW_none, errW_some] <;> rfl) | (simp [*, errW_none, errW_some] <;> rfl), by repeat (first | (with_reducible first | exact HB.out | apply below_alloc | apply pw_below_drewN | apply below_drew1) | exact HB.out)⟩
                            · replace c27 := Bool.eq_false_iff.mpr c27
                              subst c27
                              have H1 : (cohousinglaw22_LotteryLots.l0 k2 a1 t312 t313 t314 (x8_2.set ((rd t313 x45_2) : Int).toNat true) t313 (t313.length : Int) (wrap64 (x45_2 + 1))) = some r := by rw [if_neg (show ¬ (false = true) by decide)] at H; exact H
                              clear H
                              have H := H1
                              clear H1
                              obtain ⟨y322, hy322⟩ : ∃ y_ : List Bool, y_ = (x8_2.set ((rd t313 x45_2) : Int).toNat true) := ⟨_, rfl⟩
                              replace H : (cohousinglaw22_LotteryLots.l0 k2 a1 t312 t313 t314 y322 t313 (t313.length : Int) (wrap64 (x45_2 + 1))) = some r := by first | (rw [hy322]; with_reducible exact H) | (have H2_ := (Option.bind_some _ _).symm.trans H; rw [hy322]; with_reducible exact H2_) | (have H2_ := (Option.bind_some _ _).symm.trans H; with_reducible exact H2_) | with_reducible exact H | (rw [hy322]; exact H) | exact H
                              have Ny322 := Aside0.mk hy322
                              clear hy322
                              have H' := Aside0.mk H
                              clear H
                              have p320 : 0 ≤ (x45_2 : Int) := of_decide_eq_true (by first | (with_reducible assumption) | assumption)
                              have q320 : x45_2 < (t313.length : Int) := of_decide_eq_true (by first | (with_reducible assumption) | assumption)
                              obtain ⟨ad320, e320, hx320_0⟩ := Kd.at_int (Kd.R_reads' HO_43.out).2.2 x45_2 p320 q320
                              cases e320
                              replace p320 := eq_true p320
                              replace q320 := eq_true q320
                              obtain ⟨Ao30, co30, eo30⟩ := Kd.R_slice HO_8.out
                              subst eo30
                              have p321 : 0 ≤ ((rd t313 x45_2) : Int) := of_decide_eq_true (by first | (with_reducible assumption) | assumption)
                              have q321 : (rd t313 x45_2) < (x8_2.length : Int) := of_decide_eq_true (by first | (with_reducible assumption) | assumption)
                              obtain ⟨ad321, e321, hx321_0⟩ := Kd.at_bool (Kd.R_reads' HO_8.out).2.2 (rd t313 x45_2) p321 q321
                              (try rw [← Nbq26.out] at hx321_0)
                              cases e321
                              replace p321 := eq_true p321
                              replace q321 := eq_true q321
                              have p29 : 0 ≤ ((rd t313 x45_2) : Int) := of_decide_eq_true (by first | (with_reducible assumption) | assumption)
                              have q29 : ((rd t313 x45_2) : Int) < ((x8_2.length : Int) : Int) := of_decide_eq_true (by first | (with_reducible assumption) | assumption)
                              obtain ⟨go29, co29, eo29, gb29, gl29, cl29, HG29⟩ := Kd.R_form HO_8.out (by omega)
                              (first | cases eo29 | (injection eo29 with ea_ en_ ec_; (first | subst ea_ | (injection ea_ with ea_; subst ea_)); subst ec_; clear en_))
                              have GB29 := Aside0.mk gb29
                              have GG29 := Aside0.mk HG29
                              clear gb29 gl29 HG29
                              (first | simp only [add_plain] at hx321_0 | skip)
                              obtain ⟨hx29_0, hf29_0⟩ := Kd.R_celln false HO_8.out ((rd t313 x45_2) : Int) p29 q29
                              replace p29 := eq_true p29
                              replace q29 := eq_true q29
                              have HP31 := Kd.R_putg HO_8.out ((rd t313 x45_2) : Int) true
                              go_wp2_with (first | ((with_reducible refine gate_store (t := 4) (p := 64) rfl ?_); refine store_event (t := 4) (p := 64) (v := ?vo_w32) (w1 := (wr.setCell ⟨go29, ((rd t313 x45_2) : Int).toNat, none⟩ (.bool true))) ?hg ?ho ?hn ?hr ?_; (case ho => rfl); (case hg => rfl); (case hn => rfl); (case hr => first | (go_simp; done) | (go_simp; rfl)); intro w32 hw; have hg : wr.grownBy w32 (some go29) := (by rw [hw]; exact HP31.2); have hp_ : Kd.R Kd.bool 4 w32 w.heap.size (fun _ => True) (.slice (some ⟨go29, 0, none⟩) x8_2.length co30) y322 := (by rw [hw, Ny322.out]; exact HP31.1); clear HP31; have n0_ := Aside0.mk (Kd.R_over' (v := (.slice (some ⟨go29, 0, none⟩) x8_2.length co30)) (by (with_reducible repeat (first | apply Kd.R_alloc | apply Kd.R_drewN | apply Kd.R_drew)); exact HO_6.out) (Kd.R_typed HO_8.out) (by decide) hg); have n1_ := Aside0.mk (hp_); have n2_ := Aside0.mk (Kd.R_over' (v := (.slice (some ⟨go29, 0, none⟩) x8_2.length co30)) (by (with_reducible repeat (first | apply Kd.R_alloc | apply Kd.R_drewN | apply Kd.R_drew)); exact HO_43.out) (Kd.R_typed HO_8.out) (by decide) hg); have n3_ := Aside0.mk ((by rw [hw]; exact below_set (HB.out) GB29.out : Below w.heap.size w w32)); clear HO_6; clear HO_8; clear HO_43; clear HB; have HO_6 := n0_; have HO_8 := n1_; have HO_43 := n2_; have HB := n3_; clear n0_ n1_ n2_ n3_; clear hg hw hp_))
                              go_roundg k2
                              case measure => have := HJ4.out; have := HK2.out; omega
                              case rel => exact ⟨(y322), (wrap64 (x45_2 + 1)), (by first | rfl | (simp; done) | (simp [*]; done)), H', ⟨by have := HJ4.out; have := HK2.out; omega⟩, ⟨by (with_reducible repeat (first | apply Kd.R_alloc | apply Kd.R_drewN | apply Kd.R_drew)); exact HO_6.out⟩, ⟨by (with_reducible repeat (first | apply Kd.R_alloc | apply Kd.R_drewN | apply Kd.R_drew)); exact HO_8.out⟩, ⟨by (with_reducible repeat (first | apply Kd.R_alloc | apply Kd.R_drewN | apply Kd.R_drew)); exact HO_43.out⟩, ⟨by repeat (first | (with_reducible first | exact HB.out | apply below_alloc | apply pw_below_drewN | apply below_drew1) | exact HB.out)⟩⟩
                          · rw [if_neg c25] at H
                            exact absurd H (by simp)
                        · rw [if_neg c24] at H
                          exact absurd H (by simp)
                  · rw [if_neg c21] at H
                    exact absurd H (by simp)
                · rw [if_neg c20] at H
                  exact absurd H (by simp)
              · rw [if_neg c19] at H
                have c19b0 : decide (x45_2 < (t313.length : Int)) = false := decide_eq_false c19
                clear c19
                by_cases c33 : t312 = true
                · subst c33
                  have H1 : (if t314 = 0 then (some ((t313.length : Int) == a1)) else (some false)) = some r := by rw [if_pos rfl] at H; exact H
                  clear H
                  have H := H1
                  clear H1
                  by_cases c34 : t314 = 0
                  · rw [if_pos c34] at H
                    have c34b0 : (t314 == 0) = true := beq_iff_eq.mpr c34
                    have c34b1 : (t314 != 0) = false := bne_eq_false_iff_eq.mpr c34
                    clear c34
                    obtain rfl := Option.some.inj H
                    go_wp2
                    go_ret
                    exact ⟨by first | rfl | (simp [errW_none, errW_some] <;> rfl) | (simp [*, errW_none, errW_some] <;> rfl), by repeat (first | (with_reducible first | exact HB.out | apply below_alloc | apply pw_below_drewN | apply below_drew1) | exact HB.out)⟩
                  · rw [if_neg c34] at H
                    have c34b0 : (t314 == 0) = false := beq_eq_false_iff_ne.mpr c34
                    have c34b1 : (t314 != 0) = true := bne_iff_ne.mpr c34
                    obtain rfl := Option.some.inj H
                    go_wp2
                    go_ret
                    exact ⟨by first | rfl | (simp [errW_none, errW_some] <;> rfl) | (simp [*, errW_none, errW_some] <;> rfl), by repeat (first | (with_reducible first | exact HB.out | apply below_alloc | apply pw_below_drewN | apply below_drew1) | exact HB.out)⟩
                · replace c33 := Bool.eq_false_iff.mpr c33
                  subst c33
                  have H1 : (some false) = some r := by rw [if_neg (show ¬ (false = true) by decide)] at H; exact H
                  clear H
                  have H := H1
                  clear H1
                  obtain rfl := Option.some.inj H
                  go_wp2
                  go_ret
                  exact ⟨by first | rfl | (simp [errW_none, errW_some] <;> rfl) | (simp [*, errW_none, errW_some] <;> rfl), by repeat (first | (with_reducible first | exact HB.out | apply below_alloc | apply pw_below_drewN | apply below_drew1) | exact HB.out)⟩
        · rw [if_neg c15] at H
          exact absurd H (by simp)

end Go.Proofs.YtfkeelccnomjkaaDoor.P
