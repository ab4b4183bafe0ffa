/- What a law computes, and that it computes it: its Lean form and its contract, as the kit's print.py wrote them for this seat; the contract's conditions stand in its statement. -/
import Derived.Test.YtfkeelccnomjkaaDoorPRA
import Derived.Test.YtfkeelccnomjkaaDoorGSum
import Derived.Test.YtfkeelccnomjkaaDoorPXcohousinglaw22dealt
import Derived.Test.YtfkeelccnomjkaaDoorGDraw
import Derived.Test.YtfkeelccnomjkaaDoorGHead
namespace Go.Proofs.YtfkeelccnomjkaaDoor.P
open Go.RowKit Go.Proofs.YtfkeelccnomjkaaDoorW.PrintWords Go.Proofs.YtfkeelccnomjkaaDoorW.PrintLast Go.Proofs.YtfkeelccnomjkaaDoorW.PrintMore
attribute [local go_sem] max2_int min2_int max_two min_two max_three min_three max_four min_four   -- for this text's walks alone
set_option linter.unusedVariables false
set_option linter.unusedSimpArgs false

/-! ### cohousinglaw22_LotteryHonest: function 6 -/
mutual
def cohousinglaw22_LotteryHonest.j0 : Nat → List (S58) → Int → Bool → Bool → Option (Bool)
  | 0, _, _, _, _ => none
  | k + 1, x0, x1, x5, x36 => if x36 = true then (some x5) else ((cohousinglaw22_dealt.f k x0 x1).bind fun bt376 => (if bt376.2.2 = true then (cohousinglaw22_LotteryHonest.l0 k x0 x1 x5 bt376.1 bt376.2.1 0 ([] : List (S23)) (wrap64 ((x0.length : Int) - 1))) else (some false)))
def cohousinglaw22_LotteryHonest.l0 : Nat → List (S58) → Int → Bool → List (S31) → List (S23) → Int → List (S23) → Int → Option (Bool)
  | 0, _, _, _, _, _, _, _, _ => none
  | k + 1, x0, x1, x5, x6, x7, x9, x10, x11 => if x11 ≥ 0 then (if 0 ≤ x11 then (if x11 < (x7.length : Int) then (if x11 < (x0.length : Int) then (if (rd_T58 x0 x11).f3 = true then (if x10.length < 5864062014805 then (cohousinglaw22_LotteryHonest.l0 k x0 x1 x5 x6 x7 (Int.tmod (wrap64 (x9 + ((rd_T23 x7 x11).f1))) 1073741789) (x10 ++ [(⟨(rd_T23 x7 x11).f0, (rd_T23 x7 x11).f1, (rd_T23 x7 x11).f2⟩ : S23)]) (wrap64 (x11 - 1))) else (none)) else (cohousinglaw22_LotteryHonest.l0 k x0 x1 x5 x6 x7 (Int.tmod (wrap64 (x9 + ((rd_T23 x7 x11).f1))) 1073741789) x10 (wrap64 (x11 - 1)))) else (none)) else (none)) else (none)) else ((lottery_Draw.f x6 x1 x7).bind fun bt389 => ((lottery_Draw.f x6 x1 x10).bind fun bt394 => (if bt389.2.2 = 0 then (if bt389.1 = x9 then (cohousinglaw22_LotteryHonest.j2 k x1 x5 x9 x10 bt394.1 bt394.2.1 bt394.2.2 ((bt389.2.1.length : Int) != 0)) else (cohousinglaw22_LotteryHonest.j2 k x1 x5 x9 x10 bt394.1 bt394.2.1 bt394.2.2 true)) else (cohousinglaw22_LotteryHonest.j2 k x1 x5 x9 x10 bt394.1 bt394.2.1 bt394.2.2 true))))
def cohousinglaw22_LotteryHonest.j2 : Nat → Int → Bool → Int → List (S23) → Int → List Int → Int → Bool → Option (Bool)
  | 0, _, _, _, _, _, _, _, _ => none
  | k + 1, x1, x5, x9, x10, x15, x16, x17, x101 => if x101 = true then (some false) else (if (x10.length : Int) < x1 then (if x5 = true then (some (x17 == 33)) else (some false)) else (if x5 = true then (if x17 = 0 then (if x15 = x9 then (some ((x16.length : Int) == 0)) else (some false)) else (some false)) else (some false)))
end
def cohousinglaw22_LotteryHonest.f (k : Nat) (l0 : List (S58)) (a1 : Int) : Option (Bool) := (cohousinglaw22_head.f).bind fun t375 => (if (l0.length : Int) < 1 then (cohousinglaw22_LotteryHonest.j0 k l0 a1 t375 true) else (if (l0.length : Int) > 16 then (cohousinglaw22_LotteryHonest.j0 k l0 a1 t375 true) else (if a1 < 1 then (cohousinglaw22_LotteryHonest.j0 k l0 a1 t375 true) else (cohousinglaw22_LotteryHonest.j0 k l0 a1 t375 (decide (a1 > (l0.length : Int)))))))
set_option maxHeartbeats 8000000 in
set_option maxRecDepth 100000 in
theorem cohousinglaw22_LotteryHonest.calls (k : Nat) (A0 : Option Addr) (c0 : Nat) (l0 : List (S58)) (a1 : Int) (r : Bool) (w : World) (hr0 : Kd.C k58 w A0 l0.length l0) (hc0 : l0.length ≤ c0) (h : cohousinglaw22_LotteryHonest.f k l0 a1 = some r) (hgl : Gl w) :
    Calls Tryd.prog 6 #[.slice A0 l0.length c0, .int .i64 a1] w fun e w' => e = .returned (.bool r) ∧ Below w.heap.size w w' := by
  have HGL := Aside0.mk hgl
  clear hgl
  have hu23 := Tryd.underlying23
  have HR0 := Aside0.mk hr0
  have HC0 := Aside0.mk hc0
  clear hr0 hc0
  have HB := Aside0.mk (Below.refl w.heap.size w)
  have H : ((cohousinglaw22_head.f).bind fun t375 => (if (l0.length : Int) < 1 then (cohousinglaw22_LotteryHonest.j0 k l0 a1 t375 true) else (if (l0.length : Int) > 16 then (cohousinglaw22_LotteryHonest.j0 k l0 a1 t375 true) else (if a1 < 1 then (cohousinglaw22_LotteryHonest.j0 k l0 a1 t375 true) else (cohousinglaw22_LotteryHonest.j0 k l0 a1 t375 (decide (a1 > (l0.length : Int)))))))) = some r := h
  clear h
  replace H := Option.bind_eq_some_iff.mp H
  obtain ⟨t375, A30, H⟩ := H
  replace H : (if (l0.length : Int) < 1 then (cohousinglaw22_LotteryHonest.j0 k l0 a1 t375 true) else (if (l0.length : Int) > 16 then (cohousinglaw22_LotteryHonest.j0 k l0 a1 t375 true) else (if a1 < 1 then (cohousinglaw22_LotteryHonest.j0 k l0 a1 t375 true) else (cohousinglaw22_LotteryHonest.j0 k l0 a1 t375 (decide (a1 > (l0.length : Int))))))) = some r := H
  have A3 := Aside0.mk A30
  clear A30
  have HC4 := Aside0.mk H
  clear H
  go_enter Tryd.func6, Tryd.ntmps6
  go_upto_region 2 with (first | ((with_reducible refine gate_callee (f := 10) rfl ?_); refine goesL_ (some 18) rfl rfl Tryd.func10 (by kernel_rfl) rfl #[] rfl (by (try simp only [List.map_toArray, List.map_cons, List.map_nil]); first | done | rfl | (simp only [List.length_drop, List.length_take]; rfl)) ?_; (with_reducible refine (cohousinglaw22_head.calls  t375 _ A3.out ?gl).mono ?_); (case gl => refine HGL.out.below ?_; repeat (first | (with_reducible first | exact HB.out | apply below_alloc | apply pw_below_drewN | apply below_drew1) | exact HB.out)); rintro e w5 ⟨rfl, hb⟩; refine ⟨_, rfl, ?_⟩; have n0_ := Aside0.mk (below_step (by repeat (first | (with_reducible first | exact HB.out | apply below_alloc | apply pw_below_drewN | apply below_drew1) | exact HB.out)) hb); clear HB; have HB := n0_; clear n0_; (try clear hb); (try clear hb2); (try clear hk); (try clear hi)))
  (try simp only [Act.put, List.setIfInBounds_toArray, List.set_cons_zero, List.set_cons_succ])
  go_cut [36] (fun v36 wc => ∃ (kq : Nat) (x36_3 : Bool), v36 = .bool x36_3 ∧ Aside0 (cohousinglaw22_LotteryHonest.j0 kq l0 a1 t375 x36_3 = some r) ∧ Aside0 (kq ≤ k) ∧ Aside0 (Below w.heap.size w wc))
  case first =>
    have H := HC4.out
    clear HC4
    by_cases c6 : (l0.length : Int) < 1
    · rw [if_pos c6] at H
      have c6b0 : decide ((l0.length : Int) < 1) = true := decide_eq_true c6
      have c6b1 : decide (l0.length < 1) = true := decide_eq_true (by omega)
      clear c6
      (first | rw [c6b0] | (simp only [i64_w, i32_w]; rw [c6b0]) | skip)
      have H' := Aside0.mk H
      clear H
      go_wp2
      go_meet
      case rel => exact ⟨_, (true), (by first | rfl | (simp; done) | (simp [*]; done)), H', ⟨by first | omega | exact Nat.le_refl _⟩, ⟨by repeat (first | (with_reducible first | exact HB.out | apply below_alloc | apply pw_below_drewN | apply below_drew1) | exact HB.out)⟩⟩
    · rw [if_neg c6] at H
      have c6b0 : decide ((l0.length : Int) < 1) = false := decide_eq_false c6
      have c6b1 : decide (l0.length < 1) = false := decide_eq_false (by omega)
      clear c6
      (first | rw [c6b0] | (simp only [i64_w, i32_w]; rw [c6b0]) | skip)
      by_cases c7 : (l0.length : Int) > 16
      · rw [if_pos c7] at H
        have c7b0 : decide (16 < (l0.length : Int)) = true := decide_eq_true c7
        have c7b1 : decide (16 < l0.length) = true := decide_eq_true (by omega)
        clear c7
        have H' := Aside0.mk H
        clear H
        go_wp2
        go_meet
        case rel => exact ⟨_, (true), (by first | rfl | (simp; done) | (simp [*]; done)), H', ⟨by first | omega | exact Nat.le_refl _⟩, ⟨by repeat (first | (with_reducible first | exact HB.out | apply below_alloc | apply pw_below_drewN | apply below_drew1) | exact HB.out)⟩⟩
      · rw [if_neg c7] at H
        have c7b0 : decide (16 < (l0.length : Int)) = false := decide_eq_false c7
        have c7b1 : decide (16 < l0.length) = false := decide_eq_false (by omega)
        clear c7
        by_cases c8 : a1 < 1
        · rw [if_pos c8] at H
          have c8b0 : decide (a1 < 1) = true := decide_eq_true c8
          clear c8
          have H' := Aside0.mk H
          clear H
          go_wp2
          go_meet
          case rel => exact ⟨_, (true), (by first | rfl | (simp; done) | (simp [*]; done)), H', ⟨by first | omega | exact Nat.le_refl _⟩, ⟨by repeat (first | (with_reducible first | exact HB.out | apply below_alloc | apply pw_below_drewN | apply below_drew1) | exact HB.out)⟩⟩
        · rw [if_neg c8] at H
          have c8b0 : decide (a1 < 1) = false := decide_eq_false c8
          clear c8
          have H' := Aside0.mk H
          clear H
          go_wp2
          go_meet
          case rel => exact ⟨_, (decide (a1 > (l0.length : Int))), (by first | rfl | (simp; done) | (simp [*]; done)), H', ⟨by first | omega | exact Nat.le_refl _⟩, ⟨by repeat (first | (with_reducible first | exact HB.out | apply below_alloc | apply pw_below_drewN | apply below_drew1) | exact HB.out)⟩⟩
  case rest =>
    clear HC4
    try clear c1
    try clear p2
    try clear c6
    try clear c6b0
    try clear c6b1
    try clear c7
    try clear c7b0
    try clear c7b1
    try clear c8
    try clear c8b0
    obtain ⟨kq, x36_3, rfl, HA, HJ3, HB⟩ := hcut
    cases kq with
    | zero => exact absurd HA.out (by simp [cohousinglaw22_LotteryHonest.j0])
    | succ kj3 =>
      have H := HA.out
      clear HA
      simp only [cohousinglaw22_LotteryHonest.j0] at H
      by_cases c9 : x36_3 = true
      · subst c9
        have H1 : (some t375) = some r := by rw [if_pos rfl] at H; exact H
        clear H
        have H := H1
        clear H1
        obtain rfl := Option.some.inj H
        go_wp2
        go_ret
        exact ⟨by first | rfl | (simp [errW_none, errW_some] <;> rfl) | (simp [*, errW_none, errW_some] <;> rfl), by repeat (first | (with_reducible first | exact HB.out | apply below_alloc | apply pw_below_drewN | apply below_drew1) | exact HB.out)⟩
      · replace c9 := Bool.eq_false_iff.mpr c9
        subst c9
        have H1 : ((cohousinglaw22_dealt.f kj3 l0 a1).bind fun bt376 => (if bt376.2.2 = true then (cohousinglaw22_LotteryHonest.l0 kj3 l0 a1 t375 bt376.1 bt376.2.1 0 ([] : List (S23)) (wrap64 ((l0.length : Int) - 1))) else (some false))) = some r := by rw [if_neg (show ¬ (false = true) by decide)] at H; exact H
        clear H
        have H := H1
        clear H1
        replace H := Option.bind_eq_some_iff.mp H
        obtain ⟨⟨t376, t379, t382⟩, A100, H⟩ := H
        replace H : (if t382 = true then (cohousinglaw22_LotteryHonest.l0 kj3 l0 a1 t375 t376 t379 0 ([] : List (S23)) (wrap64 ((l0.length : Int) - 1))) else (some false)) = some r := H
        have A10 := Aside0.mk A100
        clear A100
        by_cases c11 : t382 = true
        · subst c11
          have H1 : (cohousinglaw22_LotteryHonest.l0 kj3 l0 a1 t375 t376 t379 0 ([] : List (S23)) (wrap64 ((l0.length : Int) - 1))) = some r := by rw [if_pos rfl] at H; exact H
          clear H
          have H := H1
          clear H1
          have H' := Aside0.mk H
          clear H
          go_wp2_with (first | ((with_reducible refine gate_callee (f := 26) rfl ?_); refine goesL_ (some 41) rfl rfl Tryd.func26 (by kernel_rfl) rfl #[.slice A0 l0.length c0, .int .i64 a1] rfl (by (try simp only [List.map_toArray, List.map_cons, List.map_nil]); first | done | rfl | (simp only [List.length_drop, List.length_take]; rfl)) ?_; (with_reducible refine (cohousinglaw22_dealt.calls kj3 _ _ l0 a1 t376 t379 true _ ?side1 ?side2 A10.out ?gl).mono ?_); (case gl => refine HGL.out.below ?_; repeat (first | (with_reducible first | exact HB.out | apply below_alloc | apply pw_below_drewN | apply below_drew1) | exact HB.out)); (case side1 => repeat (first | exact (Kd.C_below HR0.out HB.out) | (with_reducible refine Kd.C_alloc ?_ _) | (with_reducible refine Kd.C_drewN ?_ _) | (with_reducible refine Kd.C_drew ?_))); (case side2 => exact HC0.out); rintro e w12 ⟨v377, v380, rfl, ho0, ho1, hb⟩; refine ⟨_, rfl, ?_⟩; have n0_ := Aside0.mk (Kd.N_lower (Kd.N_mono (ok' := fun k_ => some k_ ≠ (v380 : Value).ownBlock) ho0 (fun k_ hk_ => hk_.2)) (below_size (by repeat (first | (with_reducible first | exact HB.out | apply below_alloc | apply pw_below_drewN | apply below_drew1) | exact HB.out)))); have n1_ := Aside0.mk (Kd.R_lower (Kd.R_mono (ok' := fun k_ => True) ho1 (fun _ hk_ => trivial)) (below_size (by repeat (first | (with_reducible first | exact HB.out | apply below_alloc | apply pw_below_drewN | apply below_drew1) | exact HB.out)))); have n2_ := Aside0.mk (below_step (by repeat (first | (with_reducible first | exact HB.out | apply below_alloc | apply pw_below_drewN | apply below_drew1) | exact HB.out)) hb); clear HB; have HO378 := n0_; have HO381 := n1_; have HB := n2_; clear n0_ n1_ n2_; (try clear hb); (try clear hb2); (try clear hk); (try clear hi); (try clear ho0); (try clear ho1)))
          go_loopg [9, 10, 11] kj3 (fun kq v9 v10 v11 w' => ∃ (x9_2 : Int) (x10_2 : List (S23)) (x11_2 : Int), v9 = .int .i64 x9_2 ∧ v11 = .int .i64 x11_2 ∧ Aside0 (cohousinglaw22_LotteryHonest.l0 kq l0 a1 t375 t376 t379 x9_2 x10_2 x11_2 = some r) ∧ Aside0 (kq ≤ kj3) ∧ Aside0 (Kd.N k31 31 w' w.heap.size (fun k_ => some k_ ≠ (v380 : Value).ownBlock ∧ some k_ ≠ (v10 : Value).ownBlock) v377 t376) ∧ Aside0 (Kd.R k23 23 w' w.heap.size (fun k_ => some k_ ≠ (v10 : Value).ownBlock) v380 t379) ∧ Aside0 (Kd.R k23 23 w' w.heap.size (fun k_ => some k_ ≠ (v380 : Value).ownBlock) v10 x10_2) ∧ Aside0 (Below w.heap.size w w'))
          case atStart => exact ⟨(0), (([] : List (S23))), (wrap64 ((l0.length : Int) - 1)), (by first | rfl | (simp; done) | (simp [*]; done)), (by first | rfl | (simp; done) | (simp [*]; done)), H', ⟨Nat.le_refl _⟩, ⟨by (with_reducible repeat (first | apply Kd.N_alloc | apply Kd.N_drewN | apply Kd.N_drew)); exact Kd.N_mono HO378.out (fun _ hk => ⟨hk, (by simp [Value.ownBlock])⟩)⟩, ⟨by (with_reducible repeat (first | apply Kd.R_alloc | apply Kd.R_drewN | apply Kd.R_drew)); exact Kd.R_mono HO381.out (fun _ hk => (by simp [Value.ownBlock]))⟩, ⟨by first | exact Kd.R_nil _ _ _ _ _ | exact Kd.N_nil _ _ _ _ _ | exact Kd.V_nil _ _ _ _ _ | exact Kd.Q_nil _ _ _ _ _ | exact Kd.S_nil _ _ _ _ _⟩, ⟨by repeat (first | (with_reducible first | exact HB.out | apply below_alloc | apply pw_below_drewN | apply below_drew1) | exact HB.out)⟩⟩
          case round =>
            clear H'
            try clear c1
            try clear c2
            try clear p2
            try clear c6
            try clear c6b0
            try clear c6b1
            try clear p6
            try clear c7
            try clear c7b0
            try clear c7b1
            try clear c8
            try clear c8b0
            try clear c9
            try clear c10
            try clear c11
            try clear p2
            obtain ⟨x9_2, x10_2, x11_2, rfl, rfl, HA, HK2, HO_6, HO_7, HO_10, HB⟩ := hrel
            cases gk with
            | zero => exact absurd HA.out (by simp [cohousinglaw22_LotteryHonest.l0])
            | succ k2 =>
              have H := HA.out
              clear HA
              simp only [cohousinglaw22_LotteryHonest.l0] at H
              by_cases c13 : x11_2 ≥ 0
              · rw [if_pos c13] at H
                have c13b0 : decide (0 ≤ x11_2) = true := decide_eq_true c13
                clear c13
                by_cases c14 : 0 ≤ x11_2
                · rw [if_pos c14] at H
                  have c14b0 : decide (0 ≤ x11_2) = true := decide_eq_true c14
                  clear c14
                  by_cases c15 : x11_2 < (t379.length : Int)
                  · rw [if_pos c15] at H
                    have c15b0 : decide (x11_2 < (t379.length : Int)) = true := decide_eq_true c15
                    clear c15
                    by_cases c16 : x11_2 < (l0.length : Int)
                    · rw [if_pos c16] at H
                      have c16b0 : decide (x11_2 < (l0.length : Int)) = true := decide_eq_true c16
                      clear c16
                      obtain ⟨bq17, hbq17⟩ : ∃ b_ : Bool, b_ = ((rd_T58 l0 x11_2).f3) := ⟨_, rfl⟩
                      replace H : (if bq17 = true then (if x10_2.length < 5864062014805 then (cohousinglaw22_LotteryHonest.l0 k2 l0 a1 t375 t376 t379 (Int.tmod (wrap64 (x9_2 + ((rd_T23 t379 x11_2).f1))) 1073741789) (x10_2 ++ [(⟨(rd_T23 t379 x11_2).f0, (rd_T23 t379 x11_2).f1, (rd_T23 t379 x11_2).f2⟩ : S23)]) (wrap64 (x11_2 - 1))) else (none)) else (cohousinglaw22_LotteryHonest.l0 k2 l0 a1 t375 t376 t379 (Int.tmod (wrap64 (x9_2 + ((rd_T23 t379 x11_2).f1))) 1073741789) x10_2 (wrap64 (x11_2 - 1)))) = some r := by rw [← hbq17] at H; exact H
                      have Nbq17 := Aside0.mk hbq17
                      clear hbq17
                      by_cases c18 : bq17 = true
                      · subst c18
                        have H1 : (if x10_2.length < 5864062014805 then (cohousinglaw22_LotteryHonest.l0 k2 l0 a1 t375 t376 t379 (Int.tmod (wrap64 (x9_2 + ((rd_T23 t379 x11_2).f1))) 1073741789) (x10_2 ++ [(⟨(rd_T23 t379 x11_2).f0, (rd_T23 t379 x11_2).f1, (rd_T23 t379 x11_2).f2⟩ : S23)]) (wrap64 (x11_2 - 1))) else (none)) = some r := by rw [if_pos rfl] at H; exact H
                        clear H
                        have H := H1
                        clear H1
                        by_cases c19 : x10_2.length < 5864062014805
                        · rw [if_pos c19] at H
                          have LMc19 := Aside0.mk c19
                          clear c19
                          obtain ⟨y386, hy386⟩ : ∃ y_ : List (S23), y_ = (x10_2 ++ [(⟨(rd_T23 t379 x11_2).f0, (rd_T23 t379 x11_2).f1, (rd_T23 t379 x11_2).f2⟩ : S23)]) := ⟨_, rfl⟩
                          replace H : (cohousinglaw22_LotteryHonest.l0 k2 l0 a1 t375 t376 t379 (Int.tmod (wrap64 (x9_2 + ((rd_T23 t379 x11_2).f1))) 1073741789) y386 (wrap64 (x11_2 - 1))) = some r := by first | (rw [hy386]; with_reducible exact H) | (have H2_ := (Option.bind_some _ _).symm.trans H; rw [hy386]; with_reducible exact H2_) | (have H2_ := (Option.bind_some _ _).symm.trans H; with_reducible exact H2_) | with_reducible exact H | (rw [hy386]; exact H) | exact H
                          have Ny386 := Aside0.mk hy386
                          clear hy386
                          have H' := Aside0.mk H
                          clear H
                          obtain ⟨Ao20, co20, eo20⟩ := Kd.R_slice HO_7.out
                          subst eo20
                          have p383 : 0 ≤ (x11_2 : Int) := of_decide_eq_true (by first | (with_reducible assumption) | assumption)
                          have q383 : x11_2 < (t379.length : Int) := of_decide_eq_true (by first | (with_reducible assumption) | assumption)
                          obtain ⟨ad383, e383, hx383_0, hx383_1, hx383_2⟩ := at_T23 (Kd.R_reads' HO_7.out).2.2 x11_2 p383 q383
                          cases e383
                          replace p383 := eq_true p383
                          replace q383 := eq_true q383
                          have p384 : 0 ≤ (x11_2 : Int) := of_decide_eq_true (by first | (with_reducible assumption) | assumption)
                          have q384 : x11_2 < (l0.length : Int) := of_decide_eq_true (by first | (with_reducible assumption) | assumption)
                          obtain ⟨ad384, A384_2, c384_2, e384, hx384_0, hx384_1, hx384_2, hx384_3, hx384_4, hx384_5, hx384_6, hl384_2, hi384_2⟩ := at_T58 HR0.out x11_2 p384 q384
                          (try rw [← Nbq17.out] at hx384_3)
                          cases e384
                          replace hx384_0 := (HB.out.cell (World.block_lt_of_cell? w _ hx384_0)).trans hx384_0
                          replace hx384_1 := (HB.out.cell (World.block_lt_of_cell? w _ hx384_1)).trans hx384_1
                          replace hx384_2 := (HB.out.cell (World.block_lt_of_cell? w _ hx384_2)).trans hx384_2
                          replace hx384_3 := (HB.out.cell (World.block_lt_of_cell? w _ hx384_3)).trans hx384_3
                          replace hx384_4 := (HB.out.cell (World.block_lt_of_cell? w _ hx384_4)).trans hx384_4
                          replace hx384_5 := (HB.out.cell (World.block_lt_of_cell? w _ hx384_5)).trans hx384_5
                          replace hx384_6 := (HB.out.cell (World.block_lt_of_cell? w _ hx384_6)).trans hx384_6
                          have HR384_2 := Aside0.mk hi384_2
                          have HC384_2 := Aside0.mk hl384_2
                          clear hi384_2 hl384_2
                          replace p384 := eq_true p384
                          replace q384 := eq_true q384
                          have p385 : 0 ≤ (x11_2 : Int) := of_decide_eq_true (by first | (with_reducible assumption) | assumption)
                          have q385 : x11_2 < (t379.length : Int) := of_decide_eq_true (by first | (with_reducible assumption) | assumption)
                          obtain ⟨ad385, e385, hx385_0, hx385_1, hx385_2⟩ := at_T23 (Kd.R_reads' HO_7.out).2.2 x11_2 p385 q385
                          obtain rfl : ad383 = ad385 := (by injection e385)
                          replace p385 := eq_true p385
                          replace q385 := eq_true q385
                          go_wp2_with (first | ((with_reducible refine gate_builtin (b := .append) (xs := #[.tmp 67, .tmp 72]) rfl ?_); (try (refine gate_guard (by rfl) ?_; dsimp only)); at_builtin; refine Kd.R_append k23 (w0 := w) w.heap.size rfl (.tmp 67) (.tmp 72) 27 23 (.agg #[(.int .i64 0), (.int .i64 0), (.int .i64 0)]) 24 rfl Tryd.underlying27 info23 rfl (by decide) (by omega) u10 x10_2 (⟨(rd_T23 t379 x11_2).f0, (rd_T23 t379 x11_2).f1, (rd_T23 t379 x11_2).f2⟩ : S23) [.int .i64 ((rd_T23 t379 x11_2).f0), .int .i64 ((rd_T23 t379 x11_2).f1), .int .i64 ((rd_T23 t379 x11_2).f2)] (fun k_ => some k_ ≠ (.slice (some ad383) t379.length co20 : Value).ownBlock) (fun _ => False) rfl rfl ?aP (fun _ hk => hk.elim) ?aF ?aO ?aB ?aS ?aL ?_; (case aP => exact k23_mkM _ _ _ (⟨(rd_T23 t379 x11_2).f0, (rd_T23 t379 x11_2).f1, (rd_T23 t379 x11_2).f2⟩ : S23)); (case aB => exact (by repeat (first | (with_reducible first | exact HB.out | apply below_alloc | apply pw_below_drewN | apply below_drew1) | exact HB.out))); (case aF => exact (fun k_ hk => Kd.fresh' (Kd.R_lt (by (with_reducible repeat (first | apply Kd.R_alloc | apply Kd.R_drewN | apply Kd.R_drew)); exact HO_7.out)) k_ hk)); (case aO => exact (by (with_reducible repeat (first | apply Kd.R_alloc | apply Kd.R_drewN | apply Kd.R_drew)); exact HO_10.out)); (case aS => exact (below_size (by repeat (first | (with_reducible first | exact HB.out | apply below_alloc | apply pw_below_drewN | apply below_drew1) | exact HB.out)))); (case aL => have := LMc19.out; omega); intro v387 w21 ho hb hg hat; rw [← Ny386.out] at ho; have n0_ := Aside0.mk (Kd.N_afterv (ok := (fun k_ => some k_ ≠ (.slice (some ad383) t379.length co20 : Value).ownBlock)) (by (with_reducible repeat (first | apply Kd.N_alloc | apply Kd.N_drewN | apply Kd.N_drew)); exact HO_6.out) hg hat); have n1_ := Aside0.mk (Kd.R_after (ok := (fun _ => True)) (by (with_reducible repeat (first | apply Kd.R_alloc | apply Kd.R_drewN | apply Kd.R_drew)); exact Kd.R_mono HO_7.out (fun _ hk => ⟨trivial, hk⟩)) hg hat); have n2_ := Aside0.mk (hb); have n3_ := Aside0.mk (ho); clear HO_6; clear HO_7; clear HB; clear HO_10; have HO_6 := n0_; have HO_7 := n1_; have HB := n2_; have HO388 := n3_; clear n0_ n1_ n2_ n3_; clear ho hb hg hat))
                          go_roundg k2
                          case measure => have := HJ3.out; have := HK2.out; omega
                          case rel => exact ⟨(Int.tmod (wrap64 (x9_2 + ((rd_T23 t379 x11_2).f1))) 1073741789), (y386), (wrap64 (x11_2 - 1)), (by first | rfl | (simp; done) | (simp [*]; done)), (by first | rfl | (simp; done) | (simp [*]; done)), H', ⟨by have := HJ3.out; have := HK2.out; omega⟩, ⟨by (with_reducible repeat (first | apply Kd.N_alloc | apply Kd.N_drewN | apply Kd.N_drew)); exact HO_6.out⟩, ⟨by (with_reducible repeat (first | apply Kd.R_alloc | apply Kd.R_drewN | apply Kd.R_drew)); exact Kd.R_mono HO_7.out (fun _ hk => hk.2)⟩, ⟨by (with_reducible repeat (first | apply Kd.R_alloc | apply Kd.R_drewN | apply Kd.R_drew)); exact HO388.out⟩, ⟨by repeat (first | (with_reducible first | exact HB.out | apply below_alloc | apply pw_below_drewN | apply below_drew1) | exact HB.out)⟩⟩
                        · rw [if_neg c19] at H
                          exact absurd H (by simp)
                      · replace c18 := Bool.eq_false_iff.mpr c18
                        subst c18
                        have H1 : (cohousinglaw22_LotteryHonest.l0 k2 l0 a1 t375 t376 t379 (Int.tmod (wrap64 (x9_2 + ((rd_T23 t379 x11_2).f1))) 1073741789) x10_2 (wrap64 (x11_2 - 1))) = some r := by rw [if_neg (show ¬ (false = true) by decide)] at H; exact H
                        clear H
                        have H := H1
                        clear H1
                        have H' := Aside0.mk H
                        clear H
                        obtain ⟨Ao22, co22, eo22⟩ := Kd.R_slice HO_7.out
                        subst eo22
                        have p383 : 0 ≤ (x11_2 : Int) := of_decide_eq_true (by first | (with_reducible assumption) | assumption)
                        have q383 : x11_2 < (t379.length : Int) := of_decide_eq_true (by first | (with_reducible assumption) | assumption)
                        obtain ⟨ad383, e383, hx383_0, hx383_1, hx383_2⟩ := at_T23 (Kd.R_reads' HO_7.out).2.2 x11_2 p383 q383
                        cases e383
                        replace p383 := eq_true p383
                        replace q383 := eq_true q383
                        have p384 : 0 ≤ (x11_2 : Int) := of_decide_eq_true (by first | (with_reducible assumption) | assumption)
                        have q384 : x11_2 < (l0.length : Int) := of_decide_eq_true (by first | (with_reducible assumption) | assumption)
                        obtain ⟨ad384, A384_2, c384_2, e384, hx384_0, hx384_1, hx384_2, hx384_3, hx384_4, hx384_5, hx384_6, hl384_2, hi384_2⟩ := at_T58 HR0.out x11_2 p384 q384
                        (try rw [← Nbq17.out] at hx384_3)
                        cases e384
                        replace hx384_0 := (HB.out.cell (World.block_lt_of_cell? w _ hx384_0)).trans hx384_0
                        replace hx384_1 := (HB.out.cell (World.block_lt_of_cell? w _ hx384_1)).trans hx384_1
                        replace hx384_2 := (HB.out.cell (World.block_lt_of_cell? w _ hx384_2)).trans hx384_2
                        replace hx384_3 := (HB.out.cell (World.block_lt_of_cell? w _ hx384_3)).trans hx384_3
                        replace hx384_4 := (HB.out.cell (World.block_lt_of_cell? w _ hx384_4)).trans hx384_4
                        replace hx384_5 := (HB.out.cell (World.block_lt_of_cell? w _ hx384_5)).trans hx384_5
                        replace hx384_6 := (HB.out.cell (World.block_lt_of_cell? w _ hx384_6)).trans hx384_6
                        have HR384_2 := Aside0.mk hi384_2
                        have HC384_2 := Aside0.mk hl384_2
                        clear hi384_2 hl384_2
                        replace p384 := eq_true p384
                        replace q384 := eq_true q384
                        go_wp2
                        go_roundg k2
                        case measure => have := HJ3.out; have := HK2.out; omega
                        case rel => exact ⟨(Int.tmod (wrap64 (x9_2 + ((rd_T23 t379 x11_2).f1))) 1073741789), (x10_2), (wrap64 (x11_2 - 1)), (by first | rfl | (simp; done) | (simp [*]; done)), (by first | rfl | (simp; done) | (simp [*]; done)), H', ⟨by have := HJ3.out; have := HK2.out; omega⟩, ⟨by (with_reducible repeat (first | apply Kd.N_alloc | apply Kd.N_drewN | apply Kd.N_drew)); exact HO_6.out⟩, ⟨by (with_reducible repeat (first | apply Kd.R_alloc | apply Kd.R_drewN | apply Kd.R_drew)); exact HO_7.out⟩, ⟨by (with_reducible repeat (first | apply Kd.R_alloc | apply Kd.R_drewN | apply Kd.R_drew)); exact HO_10.out⟩, ⟨by repeat (first | (with_reducible first | exact HB.out | apply below_alloc | apply pw_below_drewN | apply below_drew1) | exact HB.out)⟩⟩
                    · rw [if_neg c16] at H
                      exact absurd H (by simp)
                  · rw [if_neg c15] at H
                    exact absurd H (by simp)
                · rw [if_neg c14] at H
                  exact absurd H (by simp)
              · rw [if_neg c13] at H
                have c13b0 : decide (0 ≤ x11_2) = false := decide_eq_false c13
                clear c13
                replace H := Option.bind_eq_some_iff.mp H
                obtain ⟨⟨t389, t390, t391⟩, A230, H⟩ := H
                replace H : ((lottery_Draw.f t376 a1 x10_2).bind fun bt394 => (if t391 = 0 then (if t389 = x9_2 then (cohousinglaw22_LotteryHonest.j2 k2 a1 t375 x9_2 x10_2 bt394.1 bt394.2.1 bt394.2.2 ((t390.length : Int) != 0)) else (cohousinglaw22_LotteryHonest.j2 k2 a1 t375 x9_2 x10_2 bt394.1 bt394.2.1 bt394.2.2 true)) else (cohousinglaw22_LotteryHonest.j2 k2 a1 t375 x9_2 x10_2 bt394.1 bt394.2.1 bt394.2.2 true))) = some r := H
                have A23 := Aside0.mk A230
                clear A230
                replace H := Option.bind_eq_some_iff.mp H
                obtain ⟨⟨t394, t395, t396⟩, A240, H⟩ := H
                replace H : (if t391 = 0 then (if t389 = x9_2 then (cohousinglaw22_LotteryHonest.j2 k2 a1 t375 x9_2 x10_2 t394 t395 t396 ((t390.length : Int) != 0)) else (cohousinglaw22_LotteryHonest.j2 k2 a1 t375 x9_2 x10_2 t394 t395 t396 true)) else (cohousinglaw22_LotteryHonest.j2 k2 a1 t375 x9_2 x10_2 t394 t395 t396 true)) = some r := H
                have A24 := Aside0.mk A240
                clear A240
                have HC25 := Aside0.mk H
                clear H
                obtain ⟨Ao26, co26, eo26⟩ := Kd.N_slice HO_6.out
                subst eo26
                obtain ⟨Ao27, co27, eo27⟩ := Kd.R_slice HO_7.out
                subst eo27
                go_upto_region 17 with (first | ((with_reducible refine gate_callee (f := 16) rfl ?_); refine goesL_ (some 78) rfl rfl Tryd.func16 (by kernel_rfl) rfl #[.slice Ao26 t376.length co26, .int .i64 a1, .slice Ao27 t379.length co27] rfl (by (try simp only [List.map_toArray, List.map_cons, List.map_nil]); first | done | rfl | (simp only [List.length_drop, List.length_take]; rfl)) ?_; (with_reducible refine (lottery_Draw.calls _ _ t376 a1 _ _ t379 t389 t390 t391 _ ?side1 ?side2 ?side3 ?side4 A23.out ?gl).mono ?_); (case gl => refine HGL.out.below ?_; repeat (first | (with_reducible first | exact HB.out | apply below_alloc | apply pw_below_drewN | apply below_drew1) | exact HB.out)); (case side1 => repeat (first | exact (Kd.N_reads' HO_6.out).2.2 | (with_reducible refine Kd.C_alloc ?_ _) | (with_reducible refine Kd.C_drewN ?_ _) | (with_reducible refine Kd.C_drew ?_))); (case side2 => exact (Kd.N_reads' HO_6.out).2.1); (case side3 => repeat (first | exact (Kd.R_reads' HO_7.out).2.2 | (with_reducible refine Kd.C_alloc ?_ _) | (with_reducible refine Kd.C_drewN ?_ _) | (with_reducible refine Kd.C_drew ?_))); (case side4 => exact (Kd.R_reads' HO_7.out).2.1); rintro e w28 ⟨v392, rfl, ho0, hb⟩; refine ⟨_, rfl, ?_⟩; have n0_ := Aside0.mk (Kd.N_elder' (by (with_reducible repeat (first | apply Kd.N_alloc | apply Kd.N_drewN | apply Kd.N_drew)); exact HO_6.out) (Kd.R_base ho0) hb); have n1_ := Aside0.mk (Kd.R_below (by (with_reducible repeat (first | apply Kd.R_alloc | apply Kd.R_drewN | apply Kd.R_drew)); exact HO_7.out) hb); have n2_ := Aside0.mk (Kd.R_below (by (with_reducible repeat (first | apply Kd.R_alloc | apply Kd.R_drewN | apply Kd.R_drew)); exact HO_10.out) hb); have n3_ := Aside0.mk (Kd.R_lower ho0 (below_size (by repeat (first | (with_reducible first | exact HB.out | apply below_alloc | apply pw_below_drewN | apply below_drew1) | exact HB.out)))); have n4_ := Aside0.mk (below_step (by repeat (first | (with_reducible first | exact HB.out | apply below_alloc | apply pw_below_drewN | apply below_drew1) | exact HB.out)) hb); clear HO_6; clear HO_7; clear HO_10; clear HB; have HO_6 := n0_; have HO_7 := n1_; have HO_10 := n2_; have HO393 := n3_; have HB := n4_; clear n0_ n1_ n2_ n3_ n4_; (try clear hb); (try clear hb2); (try clear hk); (try clear hi); (try clear ho0); obtain ⟨Ao29, co29, eo29⟩ := Kd.R_slice HO_10.out; subst eo29) | ((with_reducible refine gate_callee (f := 16) rfl ?_); refine goesL_ (some 86) rfl rfl Tryd.func16 (by kernel_rfl) rfl #[.slice Ao26 t376.length co26, .int .i64 a1, .slice Ao29 x10_2.length co29] rfl (by (try simp only [List.map_toArray, List.map_cons, List.map_nil]); first | done | rfl | (simp only [List.length_drop, List.length_take]; rfl)) ?_; (with_reducible refine (lottery_Draw.calls _ _ t376 a1 _ _ x10_2 t394 t395 t396 _ ?side1 ?side2 ?side3 ?side4 A24.out ?gl).mono ?_); (case gl => refine HGL.out.below ?_; repeat (first | (with_reducible first | exact HB.out | apply below_alloc | apply pw_below_drewN | apply below_drew1) | exact HB.out)); (case side1 => repeat (first | exact (Kd.N_reads' HO_6.out).2.2 | (with_reducible refine Kd.C_alloc ?_ _) | (with_reducible refine Kd.C_drewN ?_ _) | (with_reducible refine Kd.C_drew ?_))); (case side2 => exact (Kd.N_reads' HO_6.out).2.1); (case side3 => repeat (first | exact (Kd.R_reads' HO_10.out).2.2 | (with_reducible refine Kd.C_alloc ?_ _) | (with_reducible refine Kd.C_drewN ?_ _) | (with_reducible refine Kd.C_drew ?_))); (case side4 => exact (Kd.R_reads' HO_10.out).2.1); rintro e w30 ⟨v397, rfl, ho0, hb⟩; refine ⟨_, rfl, ?_⟩; have n0_ := Aside0.mk (Kd.N_elder' (by (with_reducible repeat (first | apply Kd.N_alloc | apply Kd.N_drewN | apply Kd.N_drew)); exact HO_6.out) (Kd.R_base ho0) hb); have n1_ := Aside0.mk (Kd.R_below (by (with_reducible repeat (first | apply Kd.R_alloc | apply Kd.R_drewN | apply Kd.R_drew)); exact HO_7.out) hb); have n2_ := Aside0.mk (Kd.R_below (by (with_reducible repeat (first | apply Kd.R_alloc | apply Kd.R_drewN | apply Kd.R_drew)); exact HO_10.out) hb); have n3_ := Aside0.mk (Kd.R_elder' (by (with_reducible repeat (first | apply Kd.R_alloc | apply Kd.R_drewN | apply Kd.R_drew)); exact HO393.out) (Kd.R_base ho0) hb); have n4_ := Aside0.mk (Kd.R_lower (Kd.R_new' ho0 (Kd.R_lt (by (with_reducible repeat (first | apply Kd.R_alloc | apply Kd.R_drewN | apply Kd.R_drew)); exact HO393.out))) (below_size (by repeat (first | (with_reducible first | exact HB.out | apply below_alloc | apply pw_below_drewN | apply below_drew1) | exact HB.out)))); have n5_ := Aside0.mk (below_step (by repeat (first | (with_reducible first | exact HB.out | apply below_alloc | apply pw_below_drewN | apply below_drew1) | exact HB.out)) hb); clear HO_6; clear HO_7; clear HO_10; clear HO393; clear HB; have HO_6 := n0_; have HO_7 := n1_; have HO_10 := n2_; have HO393 := n3_; have HO398 := n4_; have HB := n5_; clear n0_ n1_ n2_ n3_ n4_ n5_; (try clear hb); (try clear hb2); (try clear hk); (try clear hi); (try clear ho0)))
                (try simp only [Act.put, List.setIfInBounds_toArray, List.set_cons_zero, List.set_cons_succ])
                go_cut [101] (fun v101 wc => ∃ (kq : Nat) (x101_24 : Bool), v101 = .bool x101_24 ∧ Aside0 (cohousinglaw22_LotteryHonest.j2 kq a1 t375 x9_2 x10_2 t394 t395 t396 x101_24 = some r) ∧ Aside0 (kq ≤ k2) ∧ Aside0 (Kd.R k23 23 wc w.heap.size (fun _ => True) (.slice Ao29 x10_2.length co29) x10_2) ∧ Aside0 (Kd.R (Kd.int .i64) 3 wc w.heap.size (fun _ => True) v397 t395) ∧ Aside0 (Below w.heap.size w wc))
                case first =>
                  have H := HC25.out
                  clear HC25
                  by_cases c31 : t391 = 0
                  · rw [if_pos c31] at H
                    have c31b0 : (t391 == 0) = true := beq_iff_eq.mpr c31
                    have c31b1 : (t391 != 0) = false := bne_eq_false_iff_eq.mpr c31
                    clear c31
                    (first | rw [c31b0] | (simp only [i64_w, i32_w]; rw [c31b0]) | skip)
                    by_cases c32 : t389 = x9_2
                    · rw [if_pos c32] at H
                      have c32b0 : (t389 == x9_2) = true := beq_iff_eq.mpr c32
                      have c32b1 : (t389 != x9_2) = false := bne_eq_false_iff_eq.mpr c32
                      clear c32
                      have H' := Aside0.mk H
                      clear H
                      obtain ⟨Ao33, co33, eo33⟩ := Kd.R_slice HO393.out
                      subst eo33
                      go_wp2
                      go_meet
                      case rel => exact ⟨_, (((t390.length : Int) != 0)), (by first | rfl | (simp; done) | (simp [*]; done)), H', ⟨by have := HJ3.out; have := HK2.out; first | omega | exact Nat.le_refl _⟩, ⟨by (with_reducible repeat (first | apply Kd.R_alloc | apply Kd.R_drewN | apply Kd.R_drew)); exact Kd.R_mono HO_10.out (fun _ hk => trivial)⟩, ⟨by (with_reducible repeat (first | apply Kd.R_alloc | apply Kd.R_drewN | apply Kd.R_drew)); exact Kd.R_mono HO398.out (fun _ hk => trivial)⟩, ⟨by repeat (first | (with_reducible first | exact HB.out | apply below_alloc | apply pw_below_drewN | apply below_drew1) | exact HB.out)⟩⟩
                    · rw [if_neg c32] at H
                      have c32b0 : (t389 == x9_2) = false := beq_eq_false_iff_ne.mpr c32
                      have c32b1 : (t389 != x9_2) = true := bne_iff_ne.mpr c32
                      have H' := Aside0.mk H
                      clear H
                      go_wp2
                      go_meet
                      case rel => exact ⟨_, (true), (by first | rfl | (simp; done) | (simp [*]; done)), H', ⟨by have := HJ3.out; have := HK2.out; first | omega | exact Nat.le_refl _⟩, ⟨by (with_reducible repeat (first | apply Kd.R_alloc | apply Kd.R_drewN | apply Kd.R_drew)); exact Kd.R_mono HO_10.out (fun _ hk => trivial)⟩, ⟨by (with_reducible repeat (first | apply Kd.R_alloc | apply Kd.R_drewN | apply Kd.R_drew)); exact Kd.R_mono HO398.out (fun _ hk => trivial)⟩, ⟨by repeat (first | (with_reducible first | exact HB.out | apply below_alloc | apply pw_below_drewN | apply below_drew1) | exact HB.out)⟩⟩
                  · rw [if_neg c31] at H
                    have c31b0 : (t391 == 0) = false := beq_eq_false_iff_ne.mpr c31
                    have c31b1 : (t391 != 0) = true := bne_iff_ne.mpr c31
                    (first | rw [c31b0] | (simp only [i64_w, i32_w]; rw [c31b0]) | skip)
                    have H' := Aside0.mk H
                    clear H
                    go_wp2
                    go_meet
                    case rel => exact ⟨_, (true), (by first | rfl | (simp; done) | (simp [*]; done)), H', ⟨by have := HJ3.out; have := HK2.out; first | omega | exact Nat.le_refl _⟩, ⟨by (with_reducible repeat (first | apply Kd.R_alloc | apply Kd.R_drewN | apply Kd.R_drew)); exact Kd.R_mono HO_10.out (fun _ hk => trivial)⟩, ⟨by (with_reducible repeat (first | apply Kd.R_alloc | apply Kd.R_drewN | apply Kd.R_drew)); exact Kd.R_mono HO398.out (fun _ hk => trivial)⟩, ⟨by repeat (first | (with_reducible first | exact HB.out | apply below_alloc | apply pw_below_drewN | apply below_drew1) | exact HB.out)⟩⟩
                case rest =>
                  clear HC25
                  try clear c1
                  try clear q1
                  try clear c2
                  try clear p2
                  try clear c3
                  try clear p3
                  try clear q3
                  try clear hx3
                  try clear c6
                  try clear c6b0
                  try clear c6b1
                  try clear p6
                  try clear c7
                  try clear c7b0
                  try clear c7b1
                  try clear c8
                  try clear c8b0
                  try clear c9
                  try clear c10
                  try clear c11
                  try clear c13
                  try clear c13b0
                  try clear c14
                  try clear c14b0
                  try clear c15
                  try clear c15b0
                  try clear c16
                  try clear c16b0
                  try clear q17
                  try clear c18
                  try clear c19
                  try clear c26
                  try clear c31
                  try clear c31b0
                  try clear c31b1
                  try clear c32
                  try clear c32b0
                  try clear c32b1
                  try clear hx383_0
                  try clear hx383_1
                  try clear hx383_2
                  try clear hx384_0
                  try clear hx384_1
                  try clear hx384_2
                  try clear hx384_3
                  try clear hx384_4
                  try clear hx384_5
                  try clear hx384_6
                  try clear hx385_0
                  try clear hx385_1
                  try clear hx385_2
                  try clear p2
                  try clear p383
                  try clear p384
                  try clear p385
                  try clear p6
                  try clear q383
                  try clear q384
                  try clear q385
                  obtain ⟨kq, x101_24, rfl, HA, HJ24, HO_10, HO_16, HB⟩ := hcut
                  cases kq with
                  | zero => exact absurd HA.out (by simp [cohousinglaw22_LotteryHonest.j2])
                  | succ kj24 =>
                    have H := HA.out
                    clear HA
                    simp only [cohousinglaw22_LotteryHonest.j2] at H
                    by_cases c34 : x101_24 = true
                    · subst c34
                      have H1 : (some false) = some r := by rw [if_pos rfl] at H; exact H
                      clear H
                      have H := H1
                      clear H1
                      obtain rfl := Option.some.inj H
                      go_wp2
                      go_ret
                      exact ⟨by first | rfl | (simp [errW_none, errW_some] <;> rfl) | (simp [*, errW_none, errW_some] <;> rfl), by repeat (first | (with_reducible first | exact HB.out | apply below_alloc | apply pw_below_drewN | apply below_drew1) | exact HB.out)⟩
                    · replace c34 := Bool.eq_false_iff.mpr c34
                      subst c34
                      have H1 : (if (x10_2.length : Int) < a1 then (if t375 = true then (some (t396 == 33)) else (some false)) else (if t375 = true then (if t396 = 0 then (if t394 = x9_2 then (some ((t395.length : Int) == 0)) else (some false)) else (some false)) else (some false))) = some r := by rw [if_neg (show ¬ (false = true) by decide)] at H; exact H
                      clear H
                      have H := H1
                      clear H1
                      by_cases c35 : (x10_2.length : Int) < a1
                      · rw [if_pos c35] at H
                        have c35b0 : decide ((x10_2.length : Int) < a1) = true := decide_eq_true c35
                        clear c35
                        by_cases c36 : t375 = true
                        · subst c36
                          have H1 : (some (t396 == 33)) = some r := by rw [if_pos rfl] at H; exact H
                          clear H
                          have H := H1
                          clear H1
                          obtain rfl := Option.some.inj H
                          go_wp2
                          go_ret
                          exact ⟨by first | rfl | (simp [errW_none, errW_some] <;> rfl) | (simp [*, errW_none, errW_some] <;> rfl), by repeat (first | (with_reducible first | exact HB.out | apply below_alloc | apply pw_below_drewN | apply below_drew1) | exact HB.out)⟩
                        · replace c36 := Bool.eq_false_iff.mpr c36
                          subst c36
                          have H1 : (some false) = some r := by rw [if_neg (show ¬ (false = true) by decide)] at H; exact H
                          clear H
                          have H := H1
                          clear H1
                          obtain rfl := Option.some.inj H
                          go_wp2
                          go_ret
                          exact ⟨by first | rfl | (simp [errW_none, errW_some] <;> rfl) | (simp [*, errW_none, errW_some] <;> rfl), by repeat (first | (with_reducible first | exact HB.out | apply below_alloc | apply pw_below_drewN | apply below_drew1) | exact HB.out)⟩
                      · rw [if_neg c35] at H
                        have c35b0 : decide ((x10_2.length : Int) < a1) = false := decide_eq_false c35
                        clear c35
                        by_cases c37 : t375 = true
                        · subst c37
                          have H1 : (if t396 = 0 then (if t394 = x9_2 then (some ((t395.length : Int) == 0)) else (some false)) else (some false)) = some r := by rw [if_pos rfl] at H; exact H
                          clear H
                          have H := H1
                          clear H1
                          by_cases c38 : t396 = 0
                          · rw [if_pos c38] at H
                            have c38b0 : (t396 == 0) = true := beq_iff_eq.mpr c38
                            have c38b1 : (t396 != 0) = false := bne_eq_false_iff_eq.mpr c38
                            clear c38
                            by_cases c39 : t394 = x9_2
                            · rw [if_pos c39] at H
                              have c39b0 : (t394 == x9_2) = true := beq_iff_eq.mpr c39
                              have c39b1 : (t394 != x9_2) = false := bne_eq_false_iff_eq.mpr c39
                              clear c39
                              obtain rfl := Option.some.inj H
                              obtain ⟨Ao40, co40, eo40⟩ := Kd.R_slice HO_16.out
                              subst eo40
                              go_wp2
                              go_ret
                              exact ⟨by first | rfl | (simp [errW_none, errW_some] <;> rfl) | (simp [*, errW_none, errW_some] <;> rfl), by repeat (first | (with_reducible first | exact HB.out | apply below_alloc | apply pw_below_drewN | apply below_drew1) | exact HB.out)⟩
                            · rw [if_neg c39] at H
                              have c39b0 : (t394 == x9_2) = false := beq_eq_false_iff_ne.mpr c39
                              have c39b1 : (t394 != x9_2) = true := bne_iff_ne.mpr c39
                              obtain rfl := Option.some.inj H
                              go_wp2
                              go_ret
                              exact ⟨by first | rfl | (simp [errW_none, errW_some] <;> rfl) | (simp [*, errW_none, errW_some] <;> rfl), by repeat (first | (with_reducible first | exact HB.out | apply below_alloc | apply pw_below_drewN | apply below_drew1) | exact HB.out)⟩
                          · rw [if_neg c38] at H
                            have c38b0 : (t396 == 0) = false := beq_eq_false_iff_ne.mpr c38
                            have c38b1 : (t396 != 0) = true := bne_iff_ne.mpr c38
                            obtain rfl := Option.some.inj H
                            go_wp2
                            go_ret
                            exact ⟨by first | rfl | (simp [errW_none, errW_some] <;> rfl) | (simp [*, errW_none, errW_some] <;> rfl), by repeat (first | (with_reducible first | exact HB.out | apply below_alloc | apply pw_below_drewN | apply below_drew1) | exact HB.out)⟩
                        · replace c37 := Bool.eq_false_iff.mpr c37
                          subst c37
                          have H1 : (some false) = some r := by rw [if_neg (show ¬ (false = true) by decide)] at H; exact H
                          clear H
                          have H := H1
                          clear H1
                          obtain rfl := Option.some.inj H
                          go_wp2
                          go_ret
                          exact ⟨by first | rfl | (simp [errW_none, errW_some] <;> rfl) | (simp [*, errW_none, errW_some] <;> rfl), by repeat (first | (with_reducible first | exact HB.out | apply below_alloc | apply pw_below_drewN | apply below_drew1) | exact HB.out)⟩
        · replace c11 := Bool.eq_false_iff.mpr c11
          subst c11
          have H1 : (some false) = some r := by rw [if_neg (show ¬ (false = true) by decide)] at H; exact H
          clear H
          have H := H1
          clear H1
          obtain rfl := Option.some.inj H
          go_wp2_with (first | ((with_reducible refine gate_callee (f := 26) rfl ?_); refine goesL_ (some 41) rfl rfl Tryd.func26 (by kernel_rfl) rfl #[.slice A0 l0.length c0, .int .i64 a1] rfl (by (try simp only [List.map_toArray, List.map_cons, List.map_nil]); first | done | rfl | (simp only [List.length_drop, List.length_take]; rfl)) ?_; (with_reducible refine (cohousinglaw22_dealt.calls kj3 _ _ l0 a1 t376 t379 false _ ?side1 ?side2 A10.out ?gl).mono ?_); (case gl => refine HGL.out.below ?_; repeat (first | (with_reducible first | exact HB.out | apply below_alloc | apply pw_below_drewN | apply below_drew1) | exact HB.out)); (case side1 => repeat (first | exact (Kd.C_below HR0.out HB.out) | (with_reducible refine Kd.C_alloc ?_ _) | (with_reducible refine Kd.C_drewN ?_ _) | (with_reducible refine Kd.C_drew ?_))); (case side2 => exact HC0.out); rintro e w41 ⟨v377, v380, rfl, ho0, ho1, hb⟩; refine ⟨_, rfl, ?_⟩; have n0_ := Aside0.mk (Kd.N_lower (Kd.N_mono (ok' := fun k_ => some k_ ≠ (v380 : Value).ownBlock) ho0 (fun k_ hk_ => hk_.2)) (below_size (by repeat (first | (with_reducible first | exact HB.out | apply below_alloc | apply pw_below_drewN | apply below_drew1) | exact HB.out)))); have n1_ := Aside0.mk (Kd.R_lower (Kd.R_mono (ok' := fun k_ => True) ho1 (fun _ hk_ => trivial)) (below_size (by repeat (first | (with_reducible first | exact HB.out | apply below_alloc | apply pw_below_drewN | apply below_drew1) | exact HB.out)))); have n2_ := Aside0.mk (below_step (by repeat (first | (with_reducible first | exact HB.out | apply below_alloc | apply pw_below_drewN | apply below_drew1) | exact HB.out)) hb); clear HB; have HO378 := n0_; have HO381 := n1_; have HB := n2_; clear n0_ n1_ n2_; (try clear hb); (try clear hb2); (try clear hk); (try clear hi); (try clear ho0); (try clear ho1)))
          go_ret
          exact ⟨by first | rfl | (simp [errW_none, errW_some] <;> rfl) | (simp [*, errW_none, errW_some] <;> rfl), by repeat (first | (with_reducible first | exact HB.out | apply below_alloc | apply pw_below_drewN | apply below_drew1) | exact HB.out)⟩

end Go.Proofs.YtfkeelccnomjkaaDoor.P
