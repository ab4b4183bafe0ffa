/- What a law computes, and that it computes it: its Lean form and its contract, as the kit's print.py wrote them for this seat; the contract's conditions stand in its statement. -/
import Derived.Test.YtfkeelccnomjkaaDoorPRA
import Derived.Test.YtfkeelccnomjkaaDoorGSum
import Derived.Test.YtfkeelccnomjkaaDoorPRD
import Derived.Test.YtfkeelccnomjkaaDoorGHead
import Derived.Test.YtfkeelccnomjkaaDoorGRecover
import Derived.Test.YtfkeelccnomjkaaDoorGSome
namespace Go.Proofs.YtfkeelccnomjkaaDoor.P
open Go.RowKit Go.Proofs.YtfkeelccnomjkaaDoorW.PrintWords Go.Proofs.YtfkeelccnomjkaaDoorW.PrintLast Go.Proofs.YtfkeelccnomjkaaDoorW.PrintMore
attribute [local go_sem] max2_int min2_int max_two min_two max_three min_three max_four min_four   -- for this text's walks alone
set_option linter.unusedVariables false
set_option linter.unusedSimpArgs false

/-! ### cohousinglaw22_LotteryRecovers: function 4 -/
def cohousinglaw22_LotteryRecovers.j0 : Nat → List Int → Int → List Int → Bool → Int → Bool → Int → Int → Int → Int → Int → List (S47) → Option (Bool)
  | 0, _, _, _, _, _, _, _, _, _, _, _, _ => none
  | k + 1, x1, x2, x3, x9, x11, x29, x362000, x362001, x362002, x370000, x370001, x370002 => if x29 = true then (if x9 = true then (if x11 = 0 then (some true) else (some (x11 == 1))) else (some false)) else ((cohousinglaw22_some.f x370002 (wrap64 ((x1.length : Int) + 1)) x3).bind fun t370 => ((lottery_Recover.f t370).bind fun bt373 => (if x9 = true then (if bt373.2 = 0 then (if bt373.1 = x362001 then (if x370000 = x362000 then (some ((x370002.length : Int) == x2)) else (some false)) else (some false)) else (some false)) else (some false))))
def cohousinglaw22_LotteryRecovers.f (k : Nat) (a0_0 : Int) (a0_1 : Int) (a0_2 : Int) (l1 : List Int) (a2 : Int) (l3 : List Int) : Option (Bool) := (cohousinglaw22_head.f).bind fun t362 => ((lottery_Deal.f k a0_0 a0_1 a0_2 l1 a2).bind fun bt363 => (if bt363.2.2.2 = 0 then (cohousinglaw22_LotteryRecovers.j0 k l1 a2 l3 t362 bt363.2.2.2 (decide ((l3.length : Int) > 16)) a0_0 a0_1 a0_2 bt363.1 bt363.2.1 bt363.2.2.1) else (cohousinglaw22_LotteryRecovers.j0 k l1 a2 l3 t362 bt363.2.2.2 true a0_0 a0_1 a0_2 bt363.1 bt363.2.1 bt363.2.2.1)))
theorem cohousinglaw22_LotteryRecovers.mono_l : ∀ k, (∀ y0 y1 y2 y3 y4 y5 y6 y7 y8 y9 y10 y11, LeO (cohousinglaw22_LotteryRecovers.j0 k y0 y1 y2 y3 y4 y5 y6 y7 y8 y9 y10 y11) (cohousinglaw22_LotteryRecovers.j0 (k + 1) y0 y1 y2 y3 y4 y5 y6 y7 y8 y9 y10 y11))
  | 0 => fun _ _ _ _ _ _ _ _ _ _ _ _ r h => by simp [cohousinglaw22_LotteryRecovers.j0] at h
  | k + 1 => by
    have ih0 := cohousinglaw22_LotteryRecovers.mono_l k
    · intro y0 y1 y2 y3 y4 y5 y6 y7 y8 y9 y10 y11
      unfold cohousinglaw22_LotteryRecovers.j0
      repeat' first
      | (with_reducible exact ih0 _ _ _ _ _ _ _ _ _ _ _ _)
      | (with_reducible exact lottery_Deal.mono _ _ _ _ _ _)
      | (with_reducible exact LeO.refl _)
      | (with_reducible exact LeO.none _)
      | (with_reducible refine LeO.ite ?_ ?_)
      | (with_reducible refine LeO.bind ?_ (fun _ => ?_))
      | exact ih0 _ _ _ _ _ _ _ _ _ _ _ _
      | exact lottery_Deal.mono _ _ _ _ _ _
      | exact LeO.none _
      | refine LeO.ite ?_ ?_
      | refine LeO.bind ?_ (fun _ => ?_)
theorem cohousinglaw22_LotteryRecovers.mono : ∀ a0 a1 a2 a3 a4 a5 k, LeO (cohousinglaw22_LotteryRecovers.f k a0 a1 a2 a3 a4 a5) (cohousinglaw22_LotteryRecovers.f (k + 1) a0 a1 a2 a3 a4 a5) := by
  intro a0 a1 a2 a3 a4 a5 k
  have ih0 := cohousinglaw22_LotteryRecovers.mono_l k
  unfold cohousinglaw22_LotteryRecovers.f
  repeat' first
      | (with_reducible exact ih0 _ _ _ _ _ _ _ _ _ _ _ _)
      | (with_reducible exact lottery_Deal.mono _ _ _ _ _ _)
      | (with_reducible exact LeO.refl _)
      | (with_reducible exact LeO.none _)
      | (with_reducible refine LeO.ite ?_ ?_)
      | (with_reducible refine LeO.bind ?_ (fun _ => ?_))
      | exact ih0 _ _ _ _ _ _ _ _ _ _ _ _
      | exact lottery_Deal.mono _ _ _ _ _ _
      | exact LeO.none _
      | refine LeO.ite ?_ ?_
      | refine LeO.bind ?_ (fun _ => ?_)
set_option maxHeartbeats 8000000 in
set_option maxRecDepth 100000 in
theorem cohousinglaw22_LotteryRecovers.calls (k : Nat) (a0_0 : Int) (a0_1 : Int) (a0_2 : Int) (A1 : Option Addr) (c1 : Nat) (l1 : List Int) (a2 : Int) (A3 : Option Addr) (c3 : Nat) (l3 : List Int) (r : Bool) (w : World) (hr1 : Kd.C (Kd.int .i64) w A1 l1.length l1) (hc1 : l1.length ≤ c1) (hr3 : Kd.C (Kd.int .i64) w A3 l3.length l3) (hc3 : l3.length ≤ c3) (h : cohousinglaw22_LotteryRecovers.f k a0_0 a0_1 a0_2 l1 a2 l3 = some r) (hgl : Gl w) :
    Calls Tryd.prog 4 #[.agg #[.int .i64 a0_0, .int .i64 a0_1, .int .i64 a0_2], .slice A1 l1.length c1, .int .i64 a2, .slice A3 l3.length c3] w fun e w' => e = .returned (.bool r) ∧ Below w.heap.size w w' := by
  have HGL := Aside0.mk hgl
  clear hgl
  have hu23 := Tryd.underlying23
  have hu31 := Tryd.underlying31
  have HR1 := Aside0.mk hr1
  have HC1 := Aside0.mk hc1
  clear hr1 hc1
  have HR3 := Aside0.mk hr3
  have HC3 := Aside0.mk hc3
  clear hr3 hc3
  have HB := Aside0.mk (Below.refl w.heap.size w)
  have H : ((cohousinglaw22_head.f).bind fun t362 => ((lottery_Deal.f k a0_0 a0_1 a0_2 l1 a2).bind fun bt363 => (if bt363.2.2.2 = 0 then (cohousinglaw22_LotteryRecovers.j0 k l1 a2 l3 t362 bt363.2.2.2 (decide ((l3.length : Int) > 16)) a0_0 a0_1 a0_2 bt363.1 bt363.2.1 bt363.2.2.1) else (cohousinglaw22_LotteryRecovers.j0 k l1 a2 l3 t362 bt363.2.2.2 true a0_0 a0_1 a0_2 bt363.1 bt363.2.1 bt363.2.2.1)))) = some r := h
  clear h
  replace H := Option.bind_eq_some_iff.mp H
  obtain ⟨t362, A50, H⟩ := H
  replace H : ((lottery_Deal.f k a0_0 a0_1 a0_2 l1 a2).bind fun bt363 => (if bt363.2.2.2 = 0 then (cohousinglaw22_LotteryRecovers.j0 k l1 a2 l3 t362 bt363.2.2.2 (decide ((l3.length : Int) > 16)) a0_0 a0_1 a0_2 bt363.1 bt363.2.1 bt363.2.2.1) else (cohousinglaw22_LotteryRecovers.j0 k l1 a2 l3 t362 bt363.2.2.2 true a0_0 a0_1 a0_2 bt363.1 bt363.2.1 bt363.2.2.1))) = some r := H
  have A5 := Aside0.mk A50
  clear A50
  replace H := Option.bind_eq_some_iff.mp H
  obtain ⟨⟨t363, t364, t365, t368⟩, A60, H⟩ := H
  replace H : (if t368 = 0 then (cohousinglaw22_LotteryRecovers.j0 k l1 a2 l3 t362 t368 (decide ((l3.length : Int) > 16)) a0_0 a0_1 a0_2 t363 t364 t365) else (cohousinglaw22_LotteryRecovers.j0 k l1 a2 l3 t362 t368 true a0_0 a0_1 a0_2 t363 t364 t365)) = some r := H
  have A6 := Aside0.mk A60
  clear A60
  have HC7 := Aside0.mk H
  clear H
  go_enter Tryd.func4, Tryd.ntmps4
  go_upto_region 3 with (first | ((with_reducible refine gate_dst (N := 4) rfl ?_); (try (refine gate_guard (by rfl) ?_; dsimp only)); refine box_event ?hg (N := 4) ?hd (cs := #[.int .i64 a0_0, .int .i64 a0_1, .int .i64 a0_2]) (t := 23) ?hr ?_; (case hd => rfl); (case hg => rfl); (case hr => first | (go_simp; done) | (go_simp; rfl)); intro gb361 hg w8 hbox hb; have n0_ := Aside0.mk (below_step (by repeat (first | (with_reducible first | exact HB.out | apply below_alloc | apply pw_below_drewN | apply below_drew1) | exact HB.out)) hb); have n1_ := Aside0.mk (hbox); have n2_ := Aside0.mk ((by rw [hg]; exact (below_size (by repeat (first | (with_reducible first | exact HB.out | apply below_alloc | apply pw_below_drewN | apply below_drew1) | exact HB.out))) : w.heap.size ≤ gb361)); have n3_ := Aside0.mk ((by rw [hg]; exact (below_size (by repeat (first | (with_reducible first | exact HB.out | apply below_alloc | apply pw_below_drewN | apply below_drew1) | exact HB.out))) : w.heap.size ≤ gb361)); clear HB; have HB := n0_; have BK361 := n1_; have GW361 := n2_; have GE361 := n3_; clear n0_ n1_ n2_ n3_; clear hb hbox hg) | ((with_reducible refine gate_callee (f := 10) rfl ?_); refine goesL_ (some 15) rfl rfl Tryd.func10 (by kernel_rfl) rfl #[] rfl (by (try simp only [List.map_toArray, List.map_cons, List.map_nil]); first | done | rfl | (simp only [List.length_drop, List.length_take]; rfl)) ?_; (with_reducible refine (cohousinglaw22_head.calls  t362 _ A5.out ?gl).mono ?_); (case gl => refine HGL.out.below ?_; repeat (first | (with_reducible first | exact HB.out | apply below_alloc | apply pw_below_drewN | apply below_drew1 | refine below_set ?_ GE361.out | refine below_set ?_ GE369.out) | exact HB.out)); rintro e w9 ⟨rfl, hb⟩; refine ⟨_, rfl, ?_⟩; have n0_ := Aside0.mk (blk_below (g := gb361) (o := .cells #[.int .i64 a0_0, .int .i64 a0_1, .int .i64 a0_2] 23 (0, 0)) (by (with_reducible repeat (first | refine blk_drewN ?_ _ | refine blk_drew ?_ | refine blk_alloc ?_ _)); exact BK361.out) hb); have n1_ := Aside0.mk (below_step (by repeat (first | (with_reducible first | exact HB.out | apply below_alloc | apply pw_below_drewN | apply below_drew1 | refine below_set ?_ GE361.out) | exact HB.out)) hb); clear BK361; clear HB; have BK361 := n0_; have HB := n1_; clear n0_ n1_; (try clear hb); (try clear hb2); (try clear hk); (try clear hi); have hcz10_0 : w9.cell? ⟨gb361, 0, none⟩ = some (.int .i64 a0_0) := (blk_cell BK361.out 0).trans rfl; have hcz10_1 : w9.cell? ⟨gb361, 1, none⟩ = some (.int .i64 a0_1) := (blk_cell BK361.out 1).trans rfl; have hcz10_2 : w9.cell? ⟨gb361, 2, none⟩ = some (.int .i64 a0_2) := (blk_cell BK361.out 2).trans rfl; have hfz10_0 := blk_frozen BK361.out 0; have hfz10_1 := blk_frozen BK361.out 1; have hfz10_2 := blk_frozen BK361.out 2) | ((with_reducible refine gate_callee (f := 11) rfl ?_); refine goesL_ (some 20) rfl rfl Tryd.func11 (by kernel_rfl) rfl #[.agg #[.int .i64 a0_0, .int .i64 a0_1, .int .i64 a0_2], .slice A1 l1.length c1, .int .i64 a2] rfl (by (try simp only [List.map_toArray, List.map_cons, List.map_nil]); first | done | rfl | (simp only [List.length_drop, List.length_take]; rfl)) ?_; (with_reducible refine (lottery_Deal.calls k a0_0 a0_1 a0_2 _ _ l1 a2 t363 t364 t365 t368 _ ?side1 ?side2 A6.out ?gl).mono ?_); (case gl => refine HGL.out.below ?_; repeat (first | (with_reducible first | exact HB.out | apply below_alloc | apply pw_below_drewN | apply below_drew1 | refine below_set ?_ GE361.out | refine below_set ?_ GE369.out) | exact HB.out)); (case side1 => repeat (first | exact (Kd.C_below HR1.out HB.out) | (with_reducible refine Kd.C_alloc ?_ _) | (with_reducible refine Kd.C_drewN ?_ _) | (with_reducible refine Kd.C_drew ?_))); (case side2 => exact HC1.out); rintro e w11 ⟨v366, rfl, ho0, hb⟩; refine ⟨_, rfl, ?_⟩; have n0_ := Aside0.mk (Kd.R_lower ho0 (below_size (by repeat (first | (with_reducible first | exact HB.out | apply below_alloc | apply pw_below_drewN | apply below_drew1 | refine below_set ?_ GE361.out) | exact HB.out)))); have n1_ := Aside0.mk (blk_below (g := gb361) (o := .cells #[.int .i64 a0_0, .int .i64 a0_1, .int .i64 a0_2] 23 (0, 0)) (by (with_reducible repeat (first | refine blk_drewN ?_ _ | refine blk_drew ?_ | refine blk_alloc ?_ _)); exact BK361.out) hb); have n2_ := Aside0.mk (below_step (by repeat (first | (with_reducible first | exact HB.out | apply below_alloc | apply pw_below_drewN | apply below_drew1 | refine below_set ?_ GE361.out) | exact HB.out)) hb); clear BK361; clear HB; have HO367 := n0_; have BK361 := n1_; have HB := n2_; clear n0_ n1_ n2_; (try clear hb); (try clear hb2); (try clear hk); (try clear hi); (try clear ho0)) | ((with_reducible refine gate_dst (N := 10) rfl ?_); (try (refine gate_guard (by rfl) ?_; dsimp only)); refine box_event ?hg (N := 10) ?hd (cs := #[.int .i64 0, .int .u64 0, .slice none 0 0]) (t := 31) ?hr ?_; (case hd => rfl); (case hg => rfl); (case hr => first | (go_simp; done) | (go_simp; rfl)); intro gb369 hg w12 hbox hb; have n0_ := Aside0.mk (Kd.R_below (by (with_reducible repeat (first | apply Kd.R_alloc | apply Kd.R_drewN | apply Kd.R_drew)); exact HO367.out) hb); have n1_ := Aside0.mk (blk_below (g := gb361) (o := .cells #[.int .i64 a0_0, .int .i64 a0_1, .int .i64 a0_2] 23 (0, 0)) (by (with_reducible repeat (first | refine blk_drewN ?_ _ | refine blk_drew ?_ | refine blk_alloc ?_ _)); exact BK361.out) hb); have n2_ := Aside0.mk (below_step (by repeat (first | (with_reducible first | exact HB.out | apply below_alloc | apply pw_below_drewN | apply below_drew1 | refine below_set ?_ GE361.out) | exact HB.out)) hb); have n3_ := Aside0.mk (hbox); have n4_ := Aside0.mk ((by rw [hg]; exact (below_size (by repeat (first | (with_reducible first | exact HB.out | apply below_alloc | apply pw_below_drewN | apply below_drew1 | refine below_set ?_ GE361.out) | exact HB.out))) : w.heap.size ≤ gb369)); have n5_ := Aside0.mk ((by rw [hg]; exact (below_size (by repeat (first | (with_reducible first | exact HB.out | apply below_alloc | apply pw_below_drewN | apply below_drew1 | refine below_set ?_ GE361.out) | exact HB.out))) : w.heap.size ≤ gb369)); have n6_ := Aside0.mk ((by rw [hg]; exact Nat.ne_of_lt (blk_lt (g := gb361) (o := .cells #[.int .i64 a0_0, .int .i64 a0_1, .int .i64 a0_2] 23 (0, 0)) (by (with_reducible repeat (first | refine blk_drewN ?_ _ | refine blk_drew ?_ | refine blk_alloc ?_ _)); exact BK361.out)) : gb361 ≠ gb369)); have n7_ := Aside0.mk ((by rw [hg]; exact Nat.ne_of_gt (blk_lt (g := gb361) (o := .cells #[.int .i64 a0_0, .int .i64 a0_1, .int .i64 a0_2] 23 (0, 0)) (by (with_reducible repeat (first | refine blk_drewN ?_ _ | refine blk_drew ?_ | refine blk_alloc ?_ _)); exact BK361.out)) : gb369 ≠ gb361)); clear HO367; clear BK361; clear HB; have HO367 := n0_; have BK361 := n1_; have HB := n2_; have BK369 := n3_; have GW369 := n4_; have GE369 := n5_; have NB361_369 := n6_; have NB369_361 := n7_; clear n0_ n1_ n2_ n3_ n4_ n5_ n6_ n7_; clear hb hbox hg; have hnb13 := NB369_361.out; have hnc13 := NB361_369.out; have hcz14_0 : w12.cell? ⟨gb369, 0, none⟩ = some (.int .i64 0) := (blk_cell BK369.out 0).trans rfl; have hcz14_1 : w12.cell? ⟨gb369, 1, none⟩ = some (.int .u64 0) := (blk_cell BK369.out 1).trans rfl; have hcz14_2 : w12.cell? ⟨gb369, 2, none⟩ = some (.slice none 0 0) := (blk_cell BK369.out 2).trans rfl; have hfz14_0 := blk_frozen BK369.out 0; have hfz14_1 := blk_frozen BK369.out 1; have hfz14_2 := blk_frozen BK369.out 2; obtain ⟨Ao15, co15, eo15⟩ := Kd.R_slice HO367.out; subst eo15))
  (try simp only [Act.put, List.setIfInBounds_toArray, List.set_cons_zero, List.set_cons_succ])
  go_cut [29] (fun v29 wc => ∃ (kq : Nat) (x29_6 : Bool), v29 = .bool x29_6 ∧ Aside0 (cohousinglaw22_LotteryRecovers.j0 kq l1 a2 l3 t362 t368 x29_6 a0_0 a0_1 a0_2 t363 t364 t365 = some r) ∧ Aside0 (kq ≤ k) ∧ Aside0 (Kd.R k47 47 wc w.heap.size (fun _ => True) (.slice Ao15 t365.length co15) t365) ∧ Aside0 (wc.heap[gb361]? = some (.cells #[.int .i64 a0_0, .int .i64 a0_1, .int .i64 a0_2] 23 (0, 0))) ∧ Aside0 (wc.heap[gb369]? = some (.cells #[.int .i64 t363, .int .u64 t364, (.slice Ao15 t365.length co15)] 31 (0, 0))) ∧ Aside0 (Below w.heap.size w wc))
  case first =>
    have H := HC7.out
    clear HC7
    by_cases c16 : t368 = 0
    · rw [if_pos c16] at H
      have c16b0 : (t368 == 0) = true := beq_iff_eq.mpr c16
      have c16b1 : (t368 != 0) = false := bne_eq_false_iff_eq.mpr c16
      clear c16
      (first | rw [c16b0] | (simp only [i64_w, i32_w]; rw [c16b0]) | skip)
      have H' := Aside0.mk H
      clear H
      go_wp2
      go_meet
      case rel => exact ⟨_, (decide ((l3.length : Int) > 16)), (by first | rfl | (simp; done) | (simp [*]; done)), H', ⟨by first | omega | exact Nat.le_refl _⟩, ⟨by (with_reducible repeat (first | apply Kd.R_alloc | apply Kd.R_drewN | apply Kd.R_drew)); exact Kd.R_mono (Kd.R_far (p := ⟨gb369, 2, none⟩) (Kd.R_far (p := ⟨gb369, 1, none⟩) (Kd.R_far (p := ⟨gb369, 0, none⟩) (Kd.R_types HO367.out BK369.out (by decide)) (fun _ hk => hk.2) (.int .i64 t363)) (fun _ hk => hk.2) (.int .u64 t364)) (fun _ hk => hk.2) (.slice Ao15 t365.length co15)) (fun _ hk => trivial)⟩, ⟨by (with_reducible repeat (first | refine blk_drewN ?_ _ | refine blk_drew ?_ | refine blk_alloc ?_ _)); refine blk_far ?_ NB361_369.out _; (with_reducible repeat (first | refine blk_drewN ?_ _ | refine blk_drew ?_ | refine blk_alloc ?_ _)); refine blk_far ?_ NB361_369.out _; (with_reducible repeat (first | refine blk_drewN ?_ _ | refine blk_drew ?_ | refine blk_alloc ?_ _)); refine blk_far ?_ NB361_369.out _; (with_reducible repeat (first | refine blk_drewN ?_ _ | refine blk_drew ?_ | refine blk_alloc ?_ _)); exact BK361.out⟩, ⟨by (with_reducible repeat (first | refine blk_drewN ?_ _ | refine blk_drew ?_ | refine blk_alloc ?_ _)); refine blk_put (cs := #[.int .i64 t363, .int .u64 t364, .slice none 0 0]) ?_ 2 _ rfl; (with_reducible repeat (first | refine blk_drewN ?_ _ | refine blk_drew ?_ | refine blk_alloc ?_ _)); refine blk_put (cs := #[.int .i64 t363, .int .u64 0, .slice none 0 0]) ?_ 1 _ rfl; (with_reducible repeat (first | refine blk_drewN ?_ _ | refine blk_drew ?_ | refine blk_alloc ?_ _)); refine blk_put (cs := #[.int .i64 0, .int .u64 0, .slice none 0 0]) ?_ 0 _ rfl; (with_reducible repeat (first | refine blk_drewN ?_ _ | refine blk_drew ?_ | refine blk_alloc ?_ _)); exact BK369.out⟩, ⟨by repeat (first | (with_reducible first | exact HB.out | apply below_alloc | apply pw_below_drewN | apply below_drew1 | refine below_set ?_ GE361.out | refine below_set ?_ GE369.out) | exact HB.out)⟩⟩
    · rw [if_neg c16] at H
      have c16b0 : (t368 == 0) = false := beq_eq_false_iff_ne.mpr c16
      have c16b1 : (t368 != 0) = true := bne_iff_ne.mpr c16
      (first | rw [c16b0] | (simp only [i64_w, i32_w]; rw [c16b0]) | skip)
      have H' := Aside0.mk H
      clear H
      go_wp2
      go_meet
      case rel => exact ⟨_, (true), (by first | rfl | (simp; done) | (simp [*]; done)), H', ⟨by first | omega | exact Nat.le_refl _⟩, ⟨by (with_reducible repeat (first | apply Kd.R_alloc | apply Kd.R_drewN | apply Kd.R_drew)); exact Kd.R_mono (Kd.R_far (p := ⟨gb369, 2, none⟩) (Kd.R_far (p := ⟨gb369, 1, none⟩) (Kd.R_far (p := ⟨gb369, 0, none⟩) (Kd.R_types HO367.out BK369.out (by decide)) (fun _ hk => hk.2) (.int .i64 t363)) (fun _ hk => hk.2) (.int .u64 t364)) (fun _ hk => hk.2) (.slice Ao15 t365.length co15)) (fun _ hk => trivial)⟩, ⟨by (with_reducible repeat (first | refine blk_drewN ?_ _ | refine blk_drew ?_ | refine blk_alloc ?_ _)); refine blk_far ?_ NB361_369.out _; (with_reducible repeat (first | refine blk_drewN ?_ _ | refine blk_drew ?_ | refine blk_alloc ?_ _)); refine blk_far ?_ NB361_369.out _; (with_reducible repeat (first | refine blk_drewN ?_ _ | refine blk_drew ?_ | refine blk_alloc ?_ _)); refine blk_far ?_ NB361_369.out _; (with_reducible repeat (first | refine blk_drewN ?_ _ | refine blk_drew ?_ | refine blk_alloc ?_ _)); exact BK361.out⟩, ⟨by (with_reducible repeat (first | refine blk_drewN ?_ _ | refine blk_drew ?_ | refine blk_alloc ?_ _)); refine blk_put (cs := #[.int .i64 t363, .int .u64 t364, .slice none 0 0]) ?_ 2 _ rfl; (with_reducible repeat (first | refine blk_drewN ?_ _ | refine blk_drew ?_ | refine blk_alloc ?_ _)); refine blk_put (cs := #[.int .i64 t363, .int .u64 0, .slice none 0 0]) ?_ 1 _ rfl; (with_reducible repeat (first | refine blk_drewN ?_ _ | refine blk_drew ?_ | refine blk_alloc ?_ _)); refine blk_put (cs := #[.int .i64 0, .int .u64 0, .slice none 0 0]) ?_ 0 _ rfl; (with_reducible repeat (first | refine blk_drewN ?_ _ | refine blk_drew ?_ | refine blk_alloc ?_ _)); exact BK369.out⟩, ⟨by repeat (first | (with_reducible first | exact HB.out | apply below_alloc | apply pw_below_drewN | apply below_drew1 | refine below_set ?_ GE361.out | refine below_set ?_ GE369.out) | exact HB.out)⟩⟩
  case rest =>
    clear HC7
    try clear c1
    try clear p2
    try clear c3
    try clear c4
    try clear c10
    try clear c11
    try clear c13
    try clear c16
    try clear c16b0
    try clear c16b1
    try clear hcz10_0
    try clear hcz10_1
    try clear hcz10_2
    try clear hcz14_0
    try clear hcz14_1
    try clear hcz14_2
    try clear hfz10_0
    try clear hfz10_1
    try clear hfz10_2
    try clear hfz14_0
    try clear hfz14_1
    try clear hfz14_2
    obtain ⟨kq, x29_6, rfl, HA, HJ6, HO_370002, BK361, BK369, HB⟩ := hcut
    cases kq with
    | zero => exact absurd HA.out (by simp [cohousinglaw22_LotteryRecovers.j0])
    | succ kj6 =>
      have H := HA.out
      clear HA
      simp only [cohousinglaw22_LotteryRecovers.j0] at H
      by_cases c17 : x29_6 = true
      · subst c17
        have H1 : (if t362 = true then (if t368 = 0 then (some true) else (some (t368 == 1))) else (some false)) = some r := by rw [if_pos rfl] at H; exact H
        clear H
        have H := H1
        clear H1
        by_cases c18 : t362 = true
        · subst c18
          have H1 : (if t368 = 0 then (some true) else (some (t368 == 1))) = some r := by rw [if_pos rfl] at H; exact H
          clear H
          have H := H1
          clear H1
          by_cases c19 : t368 = 0
          · rw [if_pos c19] at H
            have c19b0 : (t368 == 0) = true := beq_iff_eq.mpr c19
            have c19b1 : (t368 != 0) = false := bne_eq_false_iff_eq.mpr c19
            clear c19
            obtain rfl := Option.some.inj H
            go_wp2
            go_ret
            exact ⟨by first | rfl | (simp [errW_none, errW_some] <;> rfl) | (simp [*, errW_none, errW_some] <;> rfl), by repeat (first | (with_reducible first | exact HB.out | apply below_alloc | apply pw_below_drewN | apply below_drew1 | refine below_set ?_ GE361.out | refine below_set ?_ GE369.out) | exact HB.out)⟩
          · rw [if_neg c19] at H
            have c19b0 : (t368 == 0) = false := beq_eq_false_iff_ne.mpr c19
            have c19b1 : (t368 != 0) = true := bne_iff_ne.mpr c19
            obtain rfl := Option.some.inj H
            go_wp2
            go_ret
            exact ⟨by first | rfl | (simp [errW_none, errW_some] <;> rfl) | (simp [*, errW_none, errW_some] <;> rfl), by repeat (first | (with_reducible first | exact HB.out | apply below_alloc | apply pw_below_drewN | apply below_drew1 | refine below_set ?_ GE361.out | refine below_set ?_ GE369.out) | exact HB.out)⟩
        · replace c18 := Bool.eq_false_iff.mpr c18
          subst c18
          have H1 : (some false) = some r := by rw [if_neg (show ¬ (false = true) by decide)] at H; exact H
          clear H
          have H := H1
          clear H1
          obtain rfl := Option.some.inj H
          go_wp2
          go_ret
          exact ⟨by first | rfl | (simp [errW_none, errW_some] <;> rfl) | (simp [*, errW_none, errW_some] <;> rfl), by repeat (first | (with_reducible first | exact HB.out | apply below_alloc | apply pw_below_drewN | apply below_drew1 | refine below_set ?_ GE361.out | refine below_set ?_ GE369.out) | exact HB.out)⟩
      · replace c17 := Bool.eq_false_iff.mpr c17
        subst c17
        have H1 : ((cohousinglaw22_some.f t365 (wrap64 ((l1.length : Int) + 1)) l3).bind fun t370 => ((lottery_Recover.f t370).bind fun bt373 => (if t362 = true then (if bt373.2 = 0 then (if bt373.1 = a0_1 then (if t363 = a0_0 then (some ((t365.length : Int) == a2)) else (some false)) else (some false)) else (some false)) else (some false)))) = some r := by rw [if_neg (show ¬ (false = true) by decide)] at H; exact H
        clear H
        have H := H1
        clear H1
        replace H := Option.bind_eq_some_iff.mp H
        obtain ⟨t370, A200, H⟩ := H
        replace H : ((lottery_Recover.f t370).bind fun bt373 => (if t362 = true then (if bt373.2 = 0 then (if bt373.1 = a0_1 then (if t363 = a0_0 then (some ((t365.length : Int) == a2)) else (some false)) else (some false)) else (some false)) else (some false))) = some r := H
        have A20 := Aside0.mk A200
        clear A200
        replace H := Option.bind_eq_some_iff.mp H
        obtain ⟨⟨t373, t374⟩, A210, H⟩ := H
        replace H : (if t362 = true then (if t374 = 0 then (if t373 = a0_1 then (if t363 = a0_0 then (some ((t365.length : Int) == a2)) else (some false)) else (some false)) else (some false)) else (some false)) = some r := H
        have A21 := Aside0.mk A210
        clear A210
        by_cases c22 : t362 = true
        · subst c22
          have H1 : (if t374 = 0 then (if t373 = a0_1 then (if t363 = a0_0 then (some ((t365.length : Int) == a2)) else (some false)) else (some false)) else (some false)) = some r := by rw [if_pos rfl] at H; exact H
          clear H
          have H := H1
          clear H1
          by_cases c23 : t374 = 0
          · rw [if_pos c23] at H
            have c23b0 : (t374 == 0) = true := beq_iff_eq.mpr c23
            have c23b1 : (t374 != 0) = false := bne_eq_false_iff_eq.mpr c23
            clear c23
            by_cases c24 : t373 = a0_1
            · rw [if_pos c24] at H
              have c24b0 : (t373 == a0_1) = true := beq_iff_eq.mpr c24
              have c24b1 : (t373 != a0_1) = false := bne_eq_false_iff_eq.mpr c24
              clear c24
              by_cases c25 : t363 = a0_0
              · rw [if_pos c25] at H
                have c25b0 : (t363 == a0_0) = true := beq_iff_eq.mpr c25
                have c25b1 : (t363 != a0_0) = false := bne_eq_false_iff_eq.mpr c25
                clear c25
                obtain rfl := Option.some.inj H
                have hnb26 := NB369_361.out
                have hnc26 := NB361_369.out
                have hcz27_0 : wc.cell? ⟨gb369, 0, none⟩ = some (.int .i64 t363) := (blk_cell BK369.out 0).trans rfl
                have hcz27_1 : wc.cell? ⟨gb369, 1, none⟩ = some (.int .u64 t364) := (blk_cell BK369.out 1).trans rfl
                have hcz27_2 : wc.cell? ⟨gb369, 2, none⟩ = some (.slice Ao15 t365.length co15) := (blk_cell BK369.out 2).trans rfl
                have hfz27_0 := blk_frozen BK369.out 0
                have hfz27_1 := blk_frozen BK369.out 1
                have hfz27_2 := blk_frozen BK369.out 2
                go_wp2_with (first | ((with_reducible refine gate_callee (f := 21) rfl ?_); refine goesL_ (some 45) rfl rfl Tryd.func21 (by kernel_rfl) rfl #[.slice Ao15 t365.length co15, .int .i64 (wrap64 ((l1.length : Int) + 1)), .slice A3 l3.length c3] rfl (by (try simp only [List.map_toArray, List.map_cons, List.map_nil]); first | done | rfl | (simp only [List.length_drop, List.length_take]; rfl)) ?_; (with_reducible refine (cohousinglaw22_some.calls _ _ t365 (wrap64 ((l1.length : Int) + 1)) _ _ l3 t370 _ ?side1 ?side2 ?side3 ?side4 A20.out).mono ?_); (case side1 => repeat (first | exact (Kd.R_reads' HO_370002.out).2.2 | (with_reducible refine Kd.C_alloc ?_ _) | (with_reducible refine Kd.C_drewN ?_ _) | (with_reducible refine Kd.C_drew ?_))); (case side2 => exact (Kd.R_reads' HO_370002.out).2.1); (case side3 => repeat (first | exact (Kd.C_below HR3.out HB.out) | (with_reducible refine Kd.C_alloc ?_ _) | (with_reducible refine Kd.C_drewN ?_ _) | (with_reducible refine Kd.C_drew ?_))); (case side4 => exact HC3.out); rintro e w28 ⟨v371, rfl, ho0, hb⟩; refine ⟨_, rfl, ?_⟩; have n0_ := Aside0.mk (Kd.R_elder' (by (with_reducible repeat (first | apply Kd.R_alloc | apply Kd.R_drewN | apply Kd.R_drew)); exact HO_370002.out) (Kd.R_base ho0) hb); have n1_ := Aside0.mk (Kd.R_lower (Kd.R_new' ho0 (Kd.R_lt (by (with_reducible repeat (first | apply Kd.R_alloc | apply Kd.R_drewN | apply Kd.R_drew)); exact HO_370002.out))) (below_size (by repeat (first | (with_reducible first | exact HB.out | apply below_alloc | apply pw_below_drewN | apply below_drew1 | refine below_set ?_ GE361.out | refine below_set ?_ GE369.out) | exact HB.out)))); have n2_ := Aside0.mk (blk_below (g := gb361) (o := .cells #[.int .i64 a0_0, .int .i64 a0_1, .int .i64 a0_2] 23 (0, 0)) (by (with_reducible repeat (first | refine blk_drewN ?_ _ | refine blk_drew ?_ | refine blk_alloc ?_ _)); exact BK361.out) hb); have n3_ := Aside0.mk (blk_below (g := gb369) (o := .cells #[.int .i64 t363, .int .u64 t364, .slice Ao15 t365.length co15] 31 (0, 0)) (by (with_reducible repeat (first | refine blk_drewN ?_ _ | refine blk_drew ?_ | refine blk_alloc ?_ _)); exact BK369.out) hb); have n4_ := Aside0.mk (below_step (by repeat (first | (with_reducible first | exact HB.out | apply below_alloc | apply pw_below_drewN | apply below_drew1 | refine below_set ?_ GE361.out | refine below_set ?_ GE369.out) | exact HB.out)) hb); clear HO_370002; clear BK361; clear BK369; clear HB; have HO_370002 := n0_; have HO372 := n1_; have BK361 := n2_; have BK369 := n3_; have HB := n4_; clear n0_ n1_ n2_ n3_ n4_; (try clear hb); (try clear hb2); (try clear hk); (try clear hi); (try clear ho0); obtain ⟨Ao29, co29, eo29⟩ := Kd.R_slice HO372.out; subst eo29) | ((with_reducible refine gate_callee (f := 14) rfl ?_); refine goesL_ (some 48) rfl rfl Tryd.func14 (by kernel_rfl) rfl #[.slice Ao29 t370.length co29] rfl (by (try simp only [List.map_toArray, List.map_cons, List.map_nil]); first | done | rfl | (simp only [List.length_drop, List.length_take]; rfl)) ?_; (with_reducible refine (lottery_Recover.calls _ _ t370 t373 t374 _ ?side1 ?side2 A21.out).mono ?_); (case side1 => repeat (first | exact (Kd.R_reads' HO372.out).2.2 | (with_reducible refine Kd.C_alloc ?_ _) | (with_reducible refine Kd.C_drewN ?_ _) | (with_reducible refine Kd.C_drew ?_))); (case side2 => exact (Kd.R_reads' HO372.out).2.1); rintro e w30 ⟨rfl, hb⟩; refine ⟨_, rfl, ?_⟩; have n0_ := Aside0.mk (Kd.R_below (by (with_reducible repeat (first | apply Kd.R_alloc | apply Kd.R_drewN | apply Kd.R_drew)); exact HO_370002.out) hb); have n1_ := Aside0.mk (Kd.R_below (by (with_reducible repeat (first | apply Kd.R_alloc | apply Kd.R_drewN | apply Kd.R_drew)); exact HO372.out) hb); have n2_ := Aside0.mk (blk_below (g := gb361) (o := .cells #[.int .i64 a0_0, .int .i64 a0_1, .int .i64 a0_2] 23 (0, 0)) (by (with_reducible repeat (first | refine blk_drewN ?_ _ | refine blk_drew ?_ | refine blk_alloc ?_ _)); exact BK361.out) hb); have n3_ := Aside0.mk (blk_below (g := gb369) (o := .cells #[.int .i64 t363, .int .u64 t364, .slice Ao15 t365.length co15] 31 (0, 0)) (by (with_reducible repeat (first | refine blk_drewN ?_ _ | refine blk_drew ?_ | refine blk_alloc ?_ _)); exact BK369.out) hb); have n4_ := Aside0.mk (below_step (by repeat (first | (with_reducible first | exact HB.out | apply below_alloc | apply pw_below_drewN | apply below_drew1 | refine below_set ?_ GE361.out | refine below_set ?_ GE369.out) | exact HB.out)) hb); clear HO_370002; clear HO372; clear BK361; clear BK369; clear HB; have HO_370002 := n0_; have HO372 := n1_; have BK361 := n2_; have BK369 := n3_; have HB := n4_; clear n0_ n1_ n2_ n3_ n4_; (try clear hb); (try clear hb2); (try clear hk); (try clear hi); have hcz31_0 : w30.cell? ⟨gb361, 0, none⟩ = some (.int .i64 a0_0) := (blk_cell BK361.out 0).trans rfl; have hcz31_1 : w30.cell? ⟨gb361, 1, none⟩ = some (.int .i64 a0_1) := (blk_cell BK361.out 1).trans rfl; have hcz31_2 : w30.cell? ⟨gb361, 2, none⟩ = some (.int .i64 a0_2) := (blk_cell BK361.out 2).trans rfl; have hfz31_0 := blk_frozen BK361.out 0; have hfz31_1 := blk_frozen BK361.out 1; have hfz31_2 := blk_frozen BK361.out 2; have hcz32_0 : w30.cell? ⟨gb369, 0, none⟩ = some (.int .i64 t363) := (blk_cell BK369.out 0).trans rfl; have hcz32_1 : w30.cell? ⟨gb369, 1, none⟩ = some (.int .u64 t364) := (blk_cell BK369.out 1).trans rfl; have hcz32_2 : w30.cell? ⟨gb369, 2, none⟩ = some (.slice Ao15 t365.length co15) := (blk_cell BK369.out 2).trans rfl; have hfz32_0 := blk_frozen BK369.out 0; have hfz32_1 := blk_frozen BK369.out 1; have hfz32_2 := blk_frozen BK369.out 2))
                go_ret
                exact ⟨by first | rfl | (simp [errW_none, errW_some] <;> rfl) | (simp [*, errW_none, errW_some] <;> rfl), by repeat (first | (with_reducible first | exact HB.out | apply below_alloc | apply pw_below_drewN | apply below_drew1 | refine below_set ?_ GE361.out | refine below_set ?_ GE369.out) | exact HB.out)⟩
              · rw [if_neg c25] at H
                have c25b0 : (t363 == a0_0) = false := beq_eq_false_iff_ne.mpr c25
                have c25b1 : (t363 != a0_0) = true := bne_iff_ne.mpr c25
                obtain rfl := Option.some.inj H
                have hnb33 := NB369_361.out
                have hnc33 := NB361_369.out
                have hcz34_0 : wc.cell? ⟨gb369, 0, none⟩ = some (.int .i64 t363) := (blk_cell BK369.out 0).trans rfl
                have hcz34_1 : wc.cell? ⟨gb369, 1, none⟩ = some (.int .u64 t364) := (blk_cell BK369.out 1).trans rfl
                have hcz34_2 : wc.cell? ⟨gb369, 2, none⟩ = some (.slice Ao15 t365.length co15) := (blk_cell BK369.out 2).trans rfl
                have hfz34_0 := blk_frozen BK369.out 0
                have hfz34_1 := blk_frozen BK369.out 1
                have hfz34_2 := blk_frozen BK369.out 2
                go_wp2_with (first | ((with_reducible refine gate_callee (f := 21) rfl ?_); refine goesL_ (some 45) rfl rfl Tryd.func21 (by kernel_rfl) rfl #[.slice Ao15 t365.length co15, .int .i64 (wrap64 ((l1.length : Int) + 1)), .slice A3 l3.length c3] rfl (by (try simp only [List.map_toArray, List.map_cons, List.map_nil]); first | done | rfl | (simp only [List.length_drop, List.length_take]; rfl)) ?_; (with_reducible refine (cohousinglaw22_some.calls _ _ t365 (wrap64 ((l1.length : Int) + 1)) _ _ l3 t370 _ ?side1 ?side2 ?side3 ?side4 A20.out).mono ?_); (case side1 => repeat (first | exact (Kd.R_reads' HO_370002.out).2.2 | (with_reducible refine Kd.C_alloc ?_ _) | (with_reducible refine Kd.C_drewN ?_ _) | (with_reducible refine Kd.C_drew ?_))); (case side2 => exact (Kd.R_reads' HO_370002.out).2.1); (case side3 => repeat (first | exact (Kd.C_below HR3.out HB.out) | (with_reducible refine Kd.C_alloc ?_ _) | (with_reducible refine Kd.C_drewN ?_ _) | (with_reducible refine Kd.C_drew ?_))); (case side4 => exact HC3.out); rintro e w35 ⟨v371, rfl, ho0, hb⟩; refine ⟨_, rfl, ?_⟩; have n0_ := Aside0.mk (Kd.R_elder' (by (with_reducible repeat (first | apply Kd.R_alloc | apply Kd.R_drewN | apply Kd.R_drew)); exact HO_370002.out) (Kd.R_base ho0) hb); have n1_ := Aside0.mk (Kd.R_lower (Kd.R_new' ho0 (Kd.R_lt (by (with_reducible repeat (first | apply Kd.R_alloc | apply Kd.R_drewN | apply Kd.R_drew)); exact HO_370002.out))) (below_size (by repeat (first | (with_reducible first | exact HB.out | apply below_alloc | apply pw_below_drewN | apply below_drew1 | refine below_set ?_ GE361.out | refine below_set ?_ GE369.out) | exact HB.out)))); have n2_ := Aside0.mk (blk_below (g := gb361) (o := .cells #[.int .i64 a0_0, .int .i64 a0_1, .int .i64 a0_2] 23 (0, 0)) (by (with_reducible repeat (first | refine blk_drewN ?_ _ | refine blk_drew ?_ | refine blk_alloc ?_ _)); exact BK361.out) hb); have n3_ := Aside0.mk (blk_below (g := gb369) (o := .cells #[.int .i64 t363, .int .u64 t364, .slice Ao15 t365.length co15] 31 (0, 0)) (by (with_reducible repeat (first | refine blk_drewN ?_ _ | refine blk_drew ?_ | refine blk_alloc ?_ _)); exact BK369.out) hb); have n4_ := Aside0.mk (below_step (by repeat (first | (with_reducible first | exact HB.out | apply below_alloc | apply pw_below_drewN | apply below_drew1 | refine below_set ?_ GE361.out | refine below_set ?_ GE369.out) | exact HB.out)) hb); clear HO_370002; clear BK361; clear BK369; clear HB; have HO_370002 := n0_; have HO372 := n1_; have BK361 := n2_; have BK369 := n3_; have HB := n4_; clear n0_ n1_ n2_ n3_ n4_; (try clear hb); (try clear hb2); (try clear hk); (try clear hi); (try clear ho0); obtain ⟨Ao36, co36, eo36⟩ := Kd.R_slice HO372.out; subst eo36) | ((with_reducible refine gate_callee (f := 14) rfl ?_); refine goesL_ (some 48) rfl rfl Tryd.func14 (by kernel_rfl) rfl #[.slice Ao36 t370.length co36] rfl (by (try simp only [List.map_toArray, List.map_cons, List.map_nil]); first | done | rfl | (simp only [List.length_drop, List.length_take]; rfl)) ?_; (with_reducible refine (lottery_Recover.calls _ _ t370 t373 t374 _ ?side1 ?side2 A21.out).mono ?_); (case side1 => repeat (first | exact (Kd.R_reads' HO372.out).2.2 | (with_reducible refine Kd.C_alloc ?_ _) | (with_reducible refine Kd.C_drewN ?_ _) | (with_reducible refine Kd.C_drew ?_))); (case side2 => exact (Kd.R_reads' HO372.out).2.1); rintro e w37 ⟨rfl, hb⟩; refine ⟨_, rfl, ?_⟩; have n0_ := Aside0.mk (Kd.R_below (by (with_reducible repeat (first | apply Kd.R_alloc | apply Kd.R_drewN | apply Kd.R_drew)); exact HO_370002.out) hb); have n1_ := Aside0.mk (Kd.R_below (by (with_reducible repeat (first | apply Kd.R_alloc | apply Kd.R_drewN | apply Kd.R_drew)); exact HO372.out) hb); have n2_ := Aside0.mk (blk_below (g := gb361) (o := .cells #[.int .i64 a0_0, .int .i64 a0_1, .int .i64 a0_2] 23 (0, 0)) (by (with_reducible repeat (first | refine blk_drewN ?_ _ | refine blk_drew ?_ | refine blk_alloc ?_ _)); exact BK361.out) hb); have n3_ := Aside0.mk (blk_below (g := gb369) (o := .cells #[.int .i64 t363, .int .u64 t364, .slice Ao15 t365.length co15] 31 (0, 0)) (by (with_reducible repeat (first | refine blk_drewN ?_ _ | refine blk_drew ?_ | refine blk_alloc ?_ _)); exact BK369.out) hb); have n4_ := Aside0.mk (below_step (by repeat (first | (with_reducible first | exact HB.out | apply below_alloc | apply pw_below_drewN | apply below_drew1 | refine below_set ?_ GE361.out | refine below_set ?_ GE369.out) | exact HB.out)) hb); clear HO_370002; clear HO372; clear BK361; clear BK369; clear HB; have HO_370002 := n0_; have HO372 := n1_; have BK361 := n2_; have BK369 := n3_; have HB := n4_; clear n0_ n1_ n2_ n3_ n4_; (try clear hb); (try clear hb2); (try clear hk); (try clear hi); have hcz38_0 : w37.cell? ⟨gb361, 0, none⟩ = some (.int .i64 a0_0) := (blk_cell BK361.out 0).trans rfl; have hcz38_1 : w37.cell? ⟨gb361, 1, none⟩ = some (.int .i64 a0_1) := (blk_cell BK361.out 1).trans rfl; have hcz38_2 : w37.cell? ⟨gb361, 2, none⟩ = some (.int .i64 a0_2) := (blk_cell BK361.out 2).trans rfl; have hfz38_0 := blk_frozen BK361.out 0; have hfz38_1 := blk_frozen BK361.out 1; have hfz38_2 := blk_frozen BK361.out 2; have hcz39_0 : w37.cell? ⟨gb369, 0, none⟩ = some (.int .i64 t363) := (blk_cell BK369.out 0).trans rfl; have hcz39_1 : w37.cell? ⟨gb369, 1, none⟩ = some (.int .u64 t364) := (blk_cell BK369.out 1).trans rfl; have hcz39_2 : w37.cell? ⟨gb369, 2, none⟩ = some (.slice Ao15 t365.length co15) := (blk_cell BK369.out 2).trans rfl; have hfz39_0 := blk_frozen BK369.out 0; have hfz39_1 := blk_frozen BK369.out 1; have hfz39_2 := blk_frozen BK369.out 2))
                go_ret
                exact ⟨by first | rfl | (simp [errW_none, errW_some] <;> rfl) | (simp [*, errW_none, errW_some] <;> rfl), by repeat (first | (with_reducible first | exact HB.out | apply below_alloc | apply pw_below_drewN | apply below_drew1 | refine below_set ?_ GE361.out | refine below_set ?_ GE369.out) | exact HB.out)⟩
            · rw [if_neg c24] at H
              have c24b0 : (t373 == a0_1) = false := beq_eq_false_iff_ne.mpr c24
              have c24b1 : (t373 != a0_1) = true := bne_iff_ne.mpr c24
              obtain rfl := Option.some.inj H
              have hnb40 := NB369_361.out
              have hnc40 := NB361_369.out
              have hcz41_0 : wc.cell? ⟨gb369, 0, none⟩ = some (.int .i64 t363) := (blk_cell BK369.out 0).trans rfl
              have hcz41_1 : wc.cell? ⟨gb369, 1, none⟩ = some (.int .u64 t364) := (blk_cell BK369.out 1).trans rfl
              have hcz41_2 : wc.cell? ⟨gb369, 2, none⟩ = some (.slice Ao15 t365.length co15) := (blk_cell BK369.out 2).trans rfl
              have hfz41_0 := blk_frozen BK369.out 0
              have hfz41_1 := blk_frozen BK369.out 1
              have hfz41_2 := blk_frozen BK369.out 2
              go_wp2_with (first | ((with_reducible refine gate_callee (f := 21) rfl ?_); refine goesL_ (some 45) rfl rfl Tryd.func21 (by kernel_rfl) rfl #[.slice Ao15 t365.length co15, .int .i64 (wrap64 ((l1.length : Int) + 1)), .slice A3 l3.length c3] rfl (by (try simp only [List.map_toArray, List.map_cons, List.map_nil]); first | done | rfl | (simp only [List.length_drop, List.length_take]; rfl)) ?_; (with_reducible refine (cohousinglaw22_some.calls _ _ t365 (wrap64 ((l1.length : Int) + 1)) _ _ l3 t370 _ ?side1 ?side2 ?side3 ?side4 A20.out).mono ?_); (case side1 => repeat (first | exact (Kd.R_reads' HO_370002.out).2.2 | (with_reducible refine Kd.C_alloc ?_ _) | (with_reducible refine Kd.C_drewN ?_ _) | (with_reducible refine Kd.C_drew ?_))); (case side2 => exact (Kd.R_reads' HO_370002.out).2.1); (case side3 => repeat (first | exact (Kd.C_below HR3.out HB.out) | (with_reducible refine Kd.C_alloc ?_ _) | (with_reducible refine Kd.C_drewN ?_ _) | (with_reducible refine Kd.C_drew ?_))); (case side4 => exact HC3.out); rintro e w42 ⟨v371, rfl, ho0, hb⟩; refine ⟨_, rfl, ?_⟩; have n0_ := Aside0.mk (Kd.R_elder' (by (with_reducible repeat (first | apply Kd.R_alloc | apply Kd.R_drewN | apply Kd.R_drew)); exact HO_370002.out) (Kd.R_base ho0) hb); have n1_ := Aside0.mk (Kd.R_lower (Kd.R_new' ho0 (Kd.R_lt (by (with_reducible repeat (first | apply Kd.R_alloc | apply Kd.R_drewN | apply Kd.R_drew)); exact HO_370002.out))) (below_size (by repeat (first | (with_reducible first | exact HB.out | apply below_alloc | apply pw_below_drewN | apply below_drew1 | refine below_set ?_ GE361.out | refine below_set ?_ GE369.out) | exact HB.out)))); have n2_ := Aside0.mk (blk_below (g := gb361) (o := .cells #[.int .i64 a0_0, .int .i64 a0_1, .int .i64 a0_2] 23 (0, 0)) (by (with_reducible repeat (first | refine blk_drewN ?_ _ | refine blk_drew ?_ | refine blk_alloc ?_ _)); exact BK361.out) hb); have n3_ := Aside0.mk (blk_below (g := gb369) (o := .cells #[.int .i64 t363, .int .u64 t364, .slice Ao15 t365.length co15] 31 (0, 0)) (by (with_reducible repeat (first | refine blk_drewN ?_ _ | refine blk_drew ?_ | refine blk_alloc ?_ _)); exact BK369.out) hb); have n4_ := Aside0.mk (below_step (by repeat (first | (with_reducible first | exact HB.out | apply below_alloc | apply pw_below_drewN | apply below_drew1 | refine below_set ?_ GE361.out | refine below_set ?_ GE369.out) | exact HB.out)) hb); clear HO_370002; clear BK361; clear BK369; clear HB; have HO_370002 := n0_; have HO372 := n1_; have BK361 := n2_; have BK369 := n3_; have HB := n4_; clear n0_ n1_ n2_ n3_ n4_; (try clear hb); (try clear hb2); (try clear hk); (try clear hi); (try clear ho0); obtain ⟨Ao43, co43, eo43⟩ := Kd.R_slice HO372.out; subst eo43) | ((with_reducible refine gate_callee (f := 14) rfl ?_); refine goesL_ (some 48) rfl rfl Tryd.func14 (by kernel_rfl) rfl #[.slice Ao43 t370.length co43] rfl (by (try simp only [List.map_toArray, List.map_cons, List.map_nil]); first | done | rfl | (simp only [List.length_drop, List.length_take]; rfl)) ?_; (with_reducible refine (lottery_Recover.calls _ _ t370 t373 t374 _ ?side1 ?side2 A21.out).mono ?_); (case side1 => repeat (first | exact (Kd.R_reads' HO372.out).2.2 | (with_reducible refine Kd.C_alloc ?_ _) | (with_reducible refine Kd.C_drewN ?_ _) | (with_reducible refine Kd.C_drew ?_))); (case side2 => exact (Kd.R_reads' HO372.out).2.1); rintro e w44 ⟨rfl, hb⟩; refine ⟨_, rfl, ?_⟩; have n0_ := Aside0.mk (Kd.R_below (by (with_reducible repeat (first | apply Kd.R_alloc | apply Kd.R_drewN | apply Kd.R_drew)); exact HO_370002.out) hb); have n1_ := Aside0.mk (Kd.R_below (by (with_reducible repeat (first | apply Kd.R_alloc | apply Kd.R_drewN | apply Kd.R_drew)); exact HO372.out) hb); have n2_ := Aside0.mk (blk_below (g := gb361) (o := .cells #[.int .i64 a0_0, .int .i64 a0_1, .int .i64 a0_2] 23 (0, 0)) (by (with_reducible repeat (first | refine blk_drewN ?_ _ | refine blk_drew ?_ | refine blk_alloc ?_ _)); exact BK361.out) hb); have n3_ := Aside0.mk (blk_below (g := gb369) (o := .cells #[.int .i64 t363, .int .u64 t364, .slice Ao15 t365.length co15] 31 (0, 0)) (by (with_reducible repeat (first | refine blk_drewN ?_ _ | refine blk_drew ?_ | refine blk_alloc ?_ _)); exact BK369.out) hb); have n4_ := Aside0.mk (below_step (by repeat (first | (with_reducible first | exact HB.out | apply below_alloc | apply pw_below_drewN | apply below_drew1 | refine below_set ?_ GE361.out | refine below_set ?_ GE369.out) | exact HB.out)) hb); clear HO_370002; clear HO372; clear BK361; clear BK369; clear HB; have HO_370002 := n0_; have HO372 := n1_; have BK361 := n2_; have BK369 := n3_; have HB := n4_; clear n0_ n1_ n2_ n3_ n4_; (try clear hb); (try clear hb2); (try clear hk); (try clear hi); have hcz45_0 : w44.cell? ⟨gb361, 0, none⟩ = some (.int .i64 a0_0) := (blk_cell BK361.out 0).trans rfl; have hcz45_1 : w44.cell? ⟨gb361, 1, none⟩ = some (.int .i64 a0_1) := (blk_cell BK361.out 1).trans rfl; have hcz45_2 : w44.cell? ⟨gb361, 2, none⟩ = some (.int .i64 a0_2) := (blk_cell BK361.out 2).trans rfl; have hfz45_0 := blk_frozen BK361.out 0; have hfz45_1 := blk_frozen BK361.out 1; have hfz45_2 := blk_frozen BK361.out 2))
              go_ret
              exact ⟨by first | rfl | (simp [errW_none, errW_some] <;> rfl) | (simp [*, errW_none, errW_some] <;> rfl), by repeat (first | (with_reducible first | exact HB.out | apply below_alloc | apply pw_below_drewN | apply below_drew1 | refine below_set ?_ GE361.out | refine below_set ?_ GE369.out) | exact HB.out)⟩
          · rw [if_neg c23] at H
            have c23b0 : (t374 == 0) = false := beq_eq_false_iff_ne.mpr c23
            have c23b1 : (t374 != 0) = true := bne_iff_ne.mpr c23
            obtain rfl := Option.some.inj H
            have hnb46 := NB369_361.out
            have hnc46 := NB361_369.out
            have hcz47_0 : wc.cell? ⟨gb369, 0, none⟩ = some (.int .i64 t363) := (blk_cell BK369.out 0).trans rfl
            have hcz47_1 : wc.cell? ⟨gb369, 1, none⟩ = some (.int .u64 t364) := (blk_cell BK369.out 1).trans rfl
            have hcz47_2 : wc.cell? ⟨gb369, 2, none⟩ = some (.slice Ao15 t365.length co15) := (blk_cell BK369.out 2).trans rfl
            have hfz47_0 := blk_frozen BK369.out 0
            have hfz47_1 := blk_frozen BK369.out 1
            have hfz47_2 := blk_frozen BK369.out 2
            go_wp2_with (first | ((with_reducible refine gate_callee (f := 21) rfl ?_); refine goesL_ (some 45) rfl rfl Tryd.func21 (by kernel_rfl) rfl #[.slice Ao15 t365.length co15, .int .i64 (wrap64 ((l1.length : Int) + 1)), .slice A3 l3.length c3] rfl (by (try simp only [List.map_toArray, List.map_cons, List.map_nil]); first | done | rfl | (simp only [List.length_drop, List.length_take]; rfl)) ?_; (with_reducible refine (cohousinglaw22_some.calls _ _ t365 (wrap64 ((l1.length : Int) + 1)) _ _ l3 t370 _ ?side1 ?side2 ?side3 ?side4 A20.out).mono ?_); (case side1 => repeat (first | exact (Kd.R_reads' HO_370002.out).2.2 | (with_reducible refine Kd.C_alloc ?_ _) | (with_reducible refine Kd.C_drewN ?_ _) | (with_reducible refine Kd.C_drew ?_))); (case side2 => exact (Kd.R_reads' HO_370002.out).2.1); (case side3 => repeat (first | exact (Kd.C_below HR3.out HB.out) | (with_reducible refine Kd.C_alloc ?_ _) | (with_reducible refine Kd.C_drewN ?_ _) | (with_reducible refine Kd.C_drew ?_))); (case side4 => exact HC3.out); rintro e w48 ⟨v371, rfl, ho0, hb⟩; refine ⟨_, rfl, ?_⟩; have n0_ := Aside0.mk (Kd.R_elder' (by (with_reducible repeat (first | apply Kd.R_alloc | apply Kd.R_drewN | apply Kd.R_drew)); exact HO_370002.out) (Kd.R_base ho0) hb); have n1_ := Aside0.mk (Kd.R_lower (Kd.R_new' ho0 (Kd.R_lt (by (with_reducible repeat (first | apply Kd.R_alloc | apply Kd.R_drewN | apply Kd.R_drew)); exact HO_370002.out))) (below_size (by repeat (first | (with_reducible first | exact HB.out | apply below_alloc | apply pw_below_drewN | apply below_drew1 | refine below_set ?_ GE361.out | refine below_set ?_ GE369.out) | exact HB.out)))); have n2_ := Aside0.mk (blk_below (g := gb361) (o := .cells #[.int .i64 a0_0, .int .i64 a0_1, .int .i64 a0_2] 23 (0, 0)) (by (with_reducible repeat (first | refine blk_drewN ?_ _ | refine blk_drew ?_ | refine blk_alloc ?_ _)); exact BK361.out) hb); have n3_ := Aside0.mk (blk_below (g := gb369) (o := .cells #[.int .i64 t363, .int .u64 t364, .slice Ao15 t365.length co15] 31 (0, 0)) (by (with_reducible repeat (first | refine blk_drewN ?_ _ | refine blk_drew ?_ | refine blk_alloc ?_ _)); exact BK369.out) hb); have n4_ := Aside0.mk (below_step (by repeat (first | (with_reducible first | exact HB.out | apply below_alloc | apply pw_below_drewN | apply below_drew1 | refine below_set ?_ GE361.out | refine below_set ?_ GE369.out) | exact HB.out)) hb); clear HO_370002; clear BK361; clear BK369; clear HB; have HO_370002 := n0_; have HO372 := n1_; have BK361 := n2_; have BK369 := n3_; have HB := n4_; clear n0_ n1_ n2_ n3_ n4_; (try clear hb); (try clear hb2); (try clear hk); (try clear hi); (try clear ho0); obtain ⟨Ao49, co49, eo49⟩ := Kd.R_slice HO372.out; subst eo49) | ((with_reducible refine gate_callee (f := 14) rfl ?_); refine goesL_ (some 48) rfl rfl Tryd.func14 (by kernel_rfl) rfl #[.slice Ao49 t370.length co49] rfl (by (try simp only [List.map_toArray, List.map_cons, List.map_nil]); first | done | rfl | (simp only [List.length_drop, List.length_take]; rfl)) ?_; (with_reducible refine (lottery_Recover.calls _ _ t370 t373 t374 _ ?side1 ?side2 A21.out).mono ?_); (case side1 => repeat (first | exact (Kd.R_reads' HO372.out).2.2 | (with_reducible refine Kd.C_alloc ?_ _) | (with_reducible refine Kd.C_drewN ?_ _) | (with_reducible refine Kd.C_drew ?_))); (case side2 => exact (Kd.R_reads' HO372.out).2.1); rintro e w50 ⟨rfl, hb⟩; refine ⟨_, rfl, ?_⟩; have n0_ := Aside0.mk (Kd.R_below (by (with_reducible repeat (first | apply Kd.R_alloc | apply Kd.R_drewN | apply Kd.R_drew)); exact HO_370002.out) hb); have n1_ := Aside0.mk (Kd.R_below (by (with_reducible repeat (first | apply Kd.R_alloc | apply Kd.R_drewN | apply Kd.R_drew)); exact HO372.out) hb); have n2_ := Aside0.mk (blk_below (g := gb361) (o := .cells #[.int .i64 a0_0, .int .i64 a0_1, .int .i64 a0_2] 23 (0, 0)) (by (with_reducible repeat (first | refine blk_drewN ?_ _ | refine blk_drew ?_ | refine blk_alloc ?_ _)); exact BK361.out) hb); have n3_ := Aside0.mk (blk_below (g := gb369) (o := .cells #[.int .i64 t363, .int .u64 t364, .slice Ao15 t365.length co15] 31 (0, 0)) (by (with_reducible repeat (first | refine blk_drewN ?_ _ | refine blk_drew ?_ | refine blk_alloc ?_ _)); exact BK369.out) hb); have n4_ := Aside0.mk (below_step (by repeat (first | (with_reducible first | exact HB.out | apply below_alloc | apply pw_below_drewN | apply below_drew1 | refine below_set ?_ GE361.out | refine below_set ?_ GE369.out) | exact HB.out)) hb); clear HO_370002; clear HO372; clear BK361; clear BK369; clear HB; have HO_370002 := n0_; have HO372 := n1_; have BK361 := n2_; have BK369 := n3_; have HB := n4_; clear n0_ n1_ n2_ n3_ n4_; (try clear hb); (try clear hb2); (try clear hk); (try clear hi)))
            go_ret
            exact ⟨by first | rfl | (simp [errW_none, errW_some] <;> rfl) | (simp [*, errW_none, errW_some] <;> rfl), by repeat (first | (with_reducible first | exact HB.out | apply below_alloc | apply pw_below_drewN | apply below_drew1 | refine below_set ?_ GE361.out | refine below_set ?_ GE369.out) | exact HB.out)⟩
        · replace c22 := Bool.eq_false_iff.mpr c22
          subst c22
          have H1 : (some false) = some r := by rw [if_neg (show ¬ (false = true) by decide)] at H; exact H
          clear H
          have H := H1
          clear H1
          obtain rfl := Option.some.inj H
          have hnb51 := NB369_361.out
          have hnc51 := NB361_369.out
          have hcz52_0 : wc.cell? ⟨gb369, 0, none⟩ = some (.int .i64 t363) := (blk_cell BK369.out 0).trans rfl
          have hcz52_1 : wc.cell? ⟨gb369, 1, none⟩ = some (.int .u64 t364) := (blk_cell BK369.out 1).trans rfl
          have hcz52_2 : wc.cell? ⟨gb369, 2, none⟩ = some (.slice Ao15 t365.length co15) := (blk_cell BK369.out 2).trans rfl
          have hfz52_0 := blk_frozen BK369.out 0
          have hfz52_1 := blk_frozen BK369.out 1
          have hfz52_2 := blk_frozen BK369.out 2
          go_wp2_with (first | ((with_reducible refine gate_callee (f := 21) rfl ?_); refine goesL_ (some 45) rfl rfl Tryd.func21 (by kernel_rfl) rfl #[.slice Ao15 t365.length co15, .int .i64 (wrap64 ((l1.length : Int) + 1)), .slice A3 l3.length c3] rfl (by (try simp only [List.map_toArray, List.map_cons, List.map_nil]); first | done | rfl | (simp only [List.length_drop, List.length_take]; rfl)) ?_; (with_reducible refine (cohousinglaw22_some.calls _ _ t365 (wrap64 ((l1.length : Int) + 1)) _ _ l3 t370 _ ?side1 ?side2 ?side3 ?side4 A20.out).mono ?_); (case side1 => repeat (first | exact (Kd.R_reads' HO_370002.out).2.2 | (with_reducible refine Kd.C_alloc ?_ _) | (with_reducible refine Kd.C_drewN ?_ _) | (with_reducible refine Kd.C_drew ?_))); (case side2 => exact (Kd.R_reads' HO_370002.out).2.1); (case side3 => repeat (first | exact (Kd.C_below HR3.out HB.out) | (with_reducible refine Kd.C_alloc ?_ _) | (with_reducible refine Kd.C_drewN ?_ _) | (with_reducible refine Kd.C_drew ?_))); (case side4 => exact HC3.out); rintro e w53 ⟨v371, rfl, ho0, hb⟩; refine ⟨_, rfl, ?_⟩; have n0_ := Aside0.mk (Kd.R_elder' (by (with_reducible repeat (first | apply Kd.R_alloc | apply Kd.R_drewN | apply Kd.R_drew)); exact HO_370002.out) (Kd.R_base ho0) hb); have n1_ := Aside0.mk (Kd.R_lower (Kd.R_new' ho0 (Kd.R_lt (by (with_reducible repeat (first | apply Kd.R_alloc | apply Kd.R_drewN | apply Kd.R_drew)); exact HO_370002.out))) (below_size (by repeat (first | (with_reducible first | exact HB.out | apply below_alloc | apply pw_below_drewN | apply below_drew1 | refine below_set ?_ GE361.out | refine below_set ?_ GE369.out) | exact HB.out)))); have n2_ := Aside0.mk (blk_below (g := gb361) (o := .cells #[.int .i64 a0_0, .int .i64 a0_1, .int .i64 a0_2] 23 (0, 0)) (by (with_reducible repeat (first | refine blk_drewN ?_ _ | refine blk_drew ?_ | refine blk_alloc ?_ _)); exact BK361.out) hb); have n3_ := Aside0.mk (blk_below (g := gb369) (o := .cells #[.int .i64 t363, .int .u64 t364, .slice Ao15 t365.length co15] 31 (0, 0)) (by (with_reducible repeat (first | refine blk_drewN ?_ _ | refine blk_drew ?_ | refine blk_alloc ?_ _)); exact BK369.out) hb); have n4_ := Aside0.mk (below_step (by repeat (first | (with_reducible first | exact HB.out | apply below_alloc | apply pw_below_drewN | apply below_drew1 | refine below_set ?_ GE361.out | refine below_set ?_ GE369.out) | exact HB.out)) hb); clear HO_370002; clear BK361; clear BK369; clear HB; have HO_370002 := n0_; have HO372 := n1_; have BK361 := n2_; have BK369 := n3_; have HB := n4_; clear n0_ n1_ n2_ n3_ n4_; (try clear hb); (try clear hb2); (try clear hk); (try clear hi); (try clear ho0); obtain ⟨Ao54, co54, eo54⟩ := Kd.R_slice HO372.out; subst eo54) | ((with_reducible refine gate_callee (f := 14) rfl ?_); refine goesL_ (some 48) rfl rfl Tryd.func14 (by kernel_rfl) rfl #[.slice Ao54 t370.length co54] rfl (by (try simp only [List.map_toArray, List.map_cons, List.map_nil]); first | done | rfl | (simp only [List.length_drop, List.length_take]; rfl)) ?_; (with_reducible refine (lottery_Recover.calls _ _ t370 t373 t374 _ ?side1 ?side2 A21.out).mono ?_); (case side1 => repeat (first | exact (Kd.R_reads' HO372.out).2.2 | (with_reducible refine Kd.C_alloc ?_ _) | (with_reducible refine Kd.C_drewN ?_ _) | (with_reducible refine Kd.C_drew ?_))); (case side2 => exact (Kd.R_reads' HO372.out).2.1); rintro e w55 ⟨rfl, hb⟩; refine ⟨_, rfl, ?_⟩; have n0_ := Aside0.mk (Kd.R_below (by (with_reducible repeat (first | apply Kd.R_alloc | apply Kd.R_drewN | apply Kd.R_drew)); exact HO_370002.out) hb); have n1_ := Aside0.mk (Kd.R_below (by (with_reducible repeat (first | apply Kd.R_alloc | apply Kd.R_drewN | apply Kd.R_drew)); exact HO372.out) hb); have n2_ := Aside0.mk (blk_below (g := gb361) (o := .cells #[.int .i64 a0_0, .int .i64 a0_1, .int .i64 a0_2] 23 (0, 0)) (by (with_reducible repeat (first | refine blk_drewN ?_ _ | refine blk_drew ?_ | refine blk_alloc ?_ _)); exact BK361.out) hb); have n3_ := Aside0.mk (blk_below (g := gb369) (o := .cells #[.int .i64 t363, .int .u64 t364, .slice Ao15 t365.length co15] 31 (0, 0)) (by (with_reducible repeat (first | refine blk_drewN ?_ _ | refine blk_drew ?_ | refine blk_alloc ?_ _)); exact BK369.out) hb); have n4_ := Aside0.mk (below_step (by repeat (first | (with_reducible first | exact HB.out | apply below_alloc | apply pw_below_drewN | apply below_drew1 | refine below_set ?_ GE361.out | refine below_set ?_ GE369.out) | exact HB.out)) hb); clear HO_370002; clear HO372; clear BK361; clear BK369; clear HB; have HO_370002 := n0_; have HO372 := n1_; have BK361 := n2_; have BK369 := n3_; have HB := n4_; clear n0_ n1_ n2_ n3_ n4_; (try clear hb); (try clear hb2); (try clear hk); (try clear hi)))
          go_ret
          exact ⟨by first | rfl | (simp [errW_none, errW_some] <;> rfl) | (simp [*, errW_none, errW_some] <;> rfl), by repeat (first | (with_reducible first | exact HB.out | apply below_alloc | apply pw_below_drewN | apply below_drew1 | refine below_set ?_ GE361.out | refine below_set ?_ GE369.out) | exact HB.out)⟩

end Go.Proofs.YtfkeelccnomjkaaDoor.P
