/- What a law computes, and that it computes it: its Lean form and its contract, as the kit's print.py wrote them for this seat; the contract's conditions stand in its statement. -/
import Derived.Test.YtfkeelccnomjkaaDoorPRA
import Derived.Test.YtfkeelccnomjkaaDoorGSum
import Derived.Test.YtfkeelccnomjkaaDoorPRD
namespace Go.Proofs.YtfkeelccnomjkaaDoor.P
open Go.RowKit Go.Proofs.YtfkeelccnomjkaaDoorW.PrintWords Go.Proofs.YtfkeelccnomjkaaDoorW.PrintLast Go.Proofs.YtfkeelccnomjkaaDoorW.PrintMore
attribute [local go_sem] max2_int min2_int max_two min_two max_three min_three max_four min_four   -- for this text's walks alone
set_option linter.unusedVariables false
set_option linter.unusedSimpArgs false

/-! ### cohousinglaw22_dealt: function 26 -/
mutual
def cohousinglaw22_dealt.l0 : Nat → List (S58) → Int → List (S31) → List (S23) → List (S58) → Int → Int → Option ((List (S31)) × (List (S23)) × Bool)
 | 0, _, _, _, _, _, _, _ => none
 | k + 1, x0, x1, x7, x8, x17, x18, x19 => if x19 < x18 then (if 0 ≤ x19 then (if x19 < (x17.length : Int) then (cohousinglaw22_dealt.l1 k x0 x1 x7 x8 x19 ([] : List Int) 0 x17 x18 x19 ((rd_T58 x17 x19).f0) ((rd_T58 x17 x19).f1) ((rd_T58 x17 x19).f2) ((rd_T58 x17 x19).f3) ((rd_T58 x17 x19).f4) ((rd_T58 x17 x19).f5) ((rd_T58 x17 x19).f6)) else (none)) else (none)) else (some (x7, x8, true))
def cohousinglaw22_dealt.l1 : Nat → List (S58) → Int → List (S31) → List (S23) → Int → List Int → Int → List (S58) → Int → Int → Int → Int → List Int → Bool → Int → Int → Int → Option ((List (S31)) × (List (S23)) × Bool)
 | 0, _, _, _, _, _, _, _, _, _, _, _, _, _, _, _, _, _ => none
 | k + 1, x0, x1, x7, x8, x9, x11, x12, x17, x18, x19, x314000, x314001, x314002, x314003, x314004, x314005, x314006 => if x12 < (wrap64 (x1 - 1)) then (if x12 < (x314002.length : Int) then (if 0 ≤ x12 then ((cohousinglaw22_residue.f (rd x314002 x12)).bind fun t315 => ((some (([t315] : List Int) : List Int)).bind fun y316 => (if x11.length + y316.length < 17592186044416 then (cohousinglaw22_dealt.l1 k x0 x1 x7 x8 x9 (x11 ++ y316) (wrap64 (x12 + 1)) x17 x18 x19 x314000 x314001 x314002 x314003 x314004 x314005 x314006) else (none)))) else (none)) else ((some (([0] : List Int) : List Int)).bind fun y322 => (if x11.length + y322.length < 17592186044416 then (cohousinglaw22_dealt.l1 k x0 x1 x7 x8 x9 (x11 ++ y322) (wrap64 (x12 + 1)) x17 x18 x19 x314000 x314001 x314002 x314003 x314004 x314005 x314006) else (none)))) else ((cohousinglaw22_residue.f x314000).bind fun t328 => ((cohousinglaw22_residue.f x314001).bind fun t329 => ((lottery_Deal.f k (wrap64 (x9 + 1)) t328 t329 x11 (x0.length : Int)).bind fun bt331 => (if bt331.2.2.2 = 0 then (if (bt331.2.2.1.length : Int) = (x0.length : Int) then ((some (([(⟨bt331.1, bt331.2.1, bt331.2.2.1⟩ : S31)] : List (S31)) : List (S31))).bind fun y338 => (if x7.length + y338.length < 3518437208883 then ((some (([(⟨wrap64 (x9 + 1), t328, t329⟩ : S23)] : List (S23)) : List (S23))).bind fun y344 => (if x8.length + y344.length < 5864062014805 then (cohousinglaw22_dealt.l0 k x0 x1 (x7 ++ y338) (x8 ++ y344) x17 x18 (wrap64 (x19 + 1))) else (none))) else (none))) else (some (([] : List (S31)), ([] : List (S23)), false))) else (some (([] : List (S31)), ([] : List (S23)), false))))))
end
def cohousinglaw22_dealt.f (k : Nat) (l0 : List (S58)) (a1 : Int) : Option ((List (S31)) × (List (S23)) × Bool) := cohousinglaw22_dealt.l0 k l0 a1 ([] : List (S31)) ([] : List (S23)) l0 (l0.length : Int) 0
def cohousinglaw22_dealt.T14 : Bool × List (List Nat × List Nat) := (true, [([], []), ([0], [0]), ([], []), ([2], [2]), ([3], [3]), ([], []), ([5], [5]), ([6, 4], [6]), ([1, 4, 7], [1, 4, 7]), ([], []), ([9, 8, 7, 0, 1, 2, 3, 4, 5, 6, 7, 8, 9], [8, 9])])
def cohousinglaw22_dealt.B14 : List Nat := [0, 1, 0, 4, 12, 0, 32, 124, 255, 0, 1023]
theorem cohousinglaw22_dealt.tab14 : rtab .any (opsOf Tryd.f26 14) = cohousinglaw22_dealt.T14 := by kernel_rfl
theorem cohousinglaw22_dealt.bits14 : waitsOk cohousinglaw22_dealt.T14.2 cohousinglaw22_dealt.B14 = true := by kernel_rfl
def cohousinglaw22_dealt.T18 : Bool × List (List Nat × List Nat) := (true, [([], []), ([], []), ([1], [1]), ([0, 2], [0, 2]), ([], []), ([], []), ([5], [5]), ([4, 6, 3], [4, 6]), ([3, 7, 0, 1, 2, 3], [0, 3]), ([7, 8, 0, 1, 2, 3, 4, 5, 6, 7, 8], [4, 7])])
def cohousinglaw22_dealt.B18 : List Nat := [0, 0, 2, 7, 0, 0, 32, 127, 255, 511]
theorem cohousinglaw22_dealt.tab18 : rtab .any (opsOf Tryd.f26 18) = cohousinglaw22_dealt.T18 := by kernel_rfl
theorem cohousinglaw22_dealt.bits18 : waitsOk cohousinglaw22_dealt.T18.2 cohousinglaw22_dealt.B18 = true := by kernel_rfl
set_option maxHeartbeats 8000000 in
set_option maxRecDepth 100000 in
theorem cohousinglaw22_dealt.calls (k : Nat) (A0 : Option Addr) (c0 : Nat) (l0 : List (S58)) (a1 : Int) (r1 : List (S31)) (r2 : List (S23)) (r3 : Bool) (w : World) (hr0 : Kd.C k58 w A0 l0.length l0) (hc0 : l0.length ≤ c0) (h : cohousinglaw22_dealt.f k l0 a1 = some (r1, r2, r3)) (hgl : Gl w) :
  Calls Tryd.prog 26 #[.slice A0 l0.length c0, .int .i64 a1] w fun e w' => ∃ v0_ v1_ : Value, e = .returned (.tuple #[v0_, v1_, .bool r3]) ∧ Kd.N k31 31 w' w.heap.size (fun k_ => (w.heap.size ≤ k_) ∧ some k_ ≠ (v1_ : Value).ownBlock) v0_ r1 ∧ Kd.R k23 23 w' w.heap.size (fun k_ => (w.heap.size ≤ k_)) v1_ r2 ∧ Below w.heap.size w w' := by
 have HGL := Aside0.mk hgl
 clear hgl
 have hu58 := Tryd.underlying58
 have hu23 := Tryd.underlying23
 have hu31 := Tryd.underlying31
 have HR0 := Aside0.mk hr0
 have HC0 := Aside0.mk hc0
 clear hr0 hc0
 have HB := Aside0.mk (Below.refl w.heap.size w)
 have H : (cohousinglaw22_dealt.l0 k l0 a1 ([] : List (S31)) ([] : List (S23)) l0 (l0.length : Int) 0) = some (r1, r2, r3) := h
 clear h
 have H' := Aside0.mk H
 clear H
 go_enter Tryd.func26, Tryd.ntmps26
 go_wp2
 go_loopg [7, 8, 19] k (fun kq v7 v8 v19 w' => ∃ (x7_1 : List (S31)) (x8_1 : List (S23)) (x19_1 : Int), v19 = .int .i64 x19_1 ∧ Aside0 (cohousinglaw22_dealt.l0 kq l0 a1 x7_1 x8_1 l0 (l0.length : Int) x19_1 = some (r1, r2, r3)) ∧ Aside0 (kq ≤ k) ∧ Aside0 (Kd.N k31 31 w' w.heap.size (fun k_ => (w.heap.size ≤ k_) ∧ some k_ ≠ (v8 : Value).ownBlock) v7 x7_1) ∧ Aside0 (Kd.R k23 23 w' w.heap.size (fun k_ => (w.heap.size ≤ k_)) v8 x8_1) ∧ Aside0 (Below w.heap.size w w'))
 case atStart => exact ⟨(([] : List (S31))), (([] : List (S23))), (0), (by first | rfl | (simp; done) | (simp [*]; done)), H', ⟨Nat.le_refl _⟩, ⟨by first | exact Kd.S_nil _ _ _ _ _ | exact Kd.N_nil _ _ _ _ _ | exact Kd.V_nil _ _ _ _ _ | exact Kd.Q_nil _ _ _ _ _ | exact Kd.R_nil _ _ _ _ _⟩, ⟨by first | exact Kd.R_nil _ _ _ _ _ | exact Kd.N_nil _ _ _ _ _ | exact Kd.V_nil _ _ _ _ _ | exact Kd.Q_nil _ _ _ _ _ | exact Kd.S_nil _ _ _ _ _⟩, ⟨by repeat (first | (with_reducible first | exact HB.out | apply below_alloc | apply pw_below_drewN | apply below_drew1) | exact HB.out)⟩⟩
 case round =>
  clear H'
  try clear c2
  try clear p2
  obtain ⟨x7_1, x8_1, x19_1, rfl, HA, HK1, HO_7, HO_8, HB⟩ := hrel
  cases gk with
  | zero => exact absurd HA.out (by simp [cohousinglaw22_dealt.l0])
  | succ k1 =>
   have H := HA.out
   clear HA
   simp only [cohousinglaw22_dealt.l0] at H
   by_cases c3 : x19_1 < (l0.length : Int)
   ·
    rw [if_pos c3] at H
    have c3b0 : decide (x19_1 < (l0.length : Int)) = true := decide_eq_true c3
    clear c3
    by_cases c4 : 0 ≤ x19_1
    ·
     rw [if_pos c4] at H
     have c4b0 : decide (0 ≤ x19_1) = true := decide_eq_true c4
     clear c4
     by_cases c5 : x19_1 < (l0.length : Int)
     ·
      rw [if_pos c5] at H
      have c5b0 : decide (x19_1 < (l0.length : Int)) = true := decide_eq_true c5
      clear c5
      have H' := Aside0.mk H
      clear H
      have p312 : 0 ≤ (x19_1 : Int) := of_decide_eq_true (by first | (with_reducible assumption) | assumption)
      have q312 : x19_1 < (l0.length : Int) := of_decide_eq_true (by first | (with_reducible assumption) | assumption)
      obtain ⟨ad312, A312_2, c312_2, e312, hx312_0, hx312_1, hx312_2, hx312_3, hx312_4, hx312_5, hx312_6, hl312_2, hi312_2⟩ := at_T58 HR0.out x19_1 p312 q312
      cases e312
      replace hx312_0 := (HB.out.cell (World.block_lt_of_cell? w _ hx312_0)).trans hx312_0
      replace hx312_1 := (HB.out.cell (World.block_lt_of_cell? w _ hx312_1)).trans hx312_1
      replace hx312_2 := (HB.out.cell (World.block_lt_of_cell? w _ hx312_2)).trans hx312_2
      replace hx312_3 := (HB.out.cell (World.block_lt_of_cell? w _ hx312_3)).trans hx312_3
      replace hx312_4 := (HB.out.cell (World.block_lt_of_cell? w _ hx312_4)).trans hx312_4
      replace hx312_5 := (HB.out.cell (World.block_lt_of_cell? w _ hx312_5)).trans hx312_5
      replace hx312_6 := (HB.out.cell (World.block_lt_of_cell? w _ hx312_6)).trans hx312_6
      have HR312_2 := Aside0.mk hi312_2
      have HC312_2 := Aside0.mk hl312_2
      clear hi312_2 hl312_2
      replace p312 := eq_true p312
      replace q312 := eq_true q312
      go_wp2_with (first | ((with_reducible refine gate_dst (N := 10) rfl ?_); (try (refine gate_guard (by rfl) ?_; dsimp only)); refine box_event ?hg (N := 10) ?hd (cs := #[.int .u32 0, .int .u32 0, .slice none 0 0, .bool false, .int .i64 0, .int .i64 0, .int .i64 0]) (t := 58) ?hr ?_; (case hd => rfl); (case hg => rfl); (case hr => first | (go_simp; done) | (go_simp; rfl)); intro gb313 hg w6 hbox hb; have n0_ := Aside0.mk (Kd.N_below (Kd.N_elderB (by (with_reducible repeat (first | apply Kd.N_alloc | apply Kd.N_drewN | apply Kd.N_drew)); exact HO_7.out) gb313 (Nat.le_of_eq hg.symm)) hb); have n1_ := Aside0.mk (Kd.R_below (by (with_reducible repeat (first | apply Kd.R_alloc | apply Kd.R_drewN | apply Kd.R_drew)); exact HO_8.out) hb); have n2_ := Aside0.mk (below_step (by repeat (first | (with_reducible first | exact HB.out | apply below_alloc | apply pw_below_drewN | apply below_drew1) | exact HB.out)) hb); have n3_ := Aside0.mk (hbox); have n4_ := Aside0.mk ((by rw [hg]; exact (below_size (by repeat (first | (with_reducible first | exact HB.out | apply below_alloc | apply pw_below_drewN | apply below_drew1) | exact HB.out))) : w.heap.size ≤ gb313)); have n5_ := Aside0.mk ((by rw [hg]; exact (below_size (by repeat (first | (with_reducible first | exact HB.out | apply below_alloc | apply pw_below_drewN | apply below_drew1) | exact HB.out))) : w.heap.size ≤ gb313)); clear HO_7; clear HO_8; clear HB; have HO_7 := n0_; have HO_8 := n1_; have HB := n2_; have BK313 := n3_; have GW313 := n4_; have GE313 := n5_; clear n0_ n1_ n2_ n3_ n4_ n5_; clear hb hbox hg; have hcz7_0 : w6.cell? ⟨gb313, 0, none⟩ = some (.int .u32 0) := (blk_cell BK313.out 0).trans rfl; have hcz7_1 : w6.cell? ⟨gb313, 1, none⟩ = some (.int .u32 0) := (blk_cell BK313.out 1).trans rfl; have hcz7_2 : w6.cell? ⟨gb313, 2, none⟩ = some (.slice none 0 0) := (blk_cell BK313.out 2).trans rfl; have hcz7_3 : w6.cell? ⟨gb313, 3, none⟩ = some (.bool false) := (blk_cell BK313.out 3).trans rfl; have hcz7_4 : w6.cell? ⟨gb313, 4, none⟩ = some (.int .i64 0) := (blk_cell BK313.out 4).trans rfl; have hcz7_5 : w6.cell? ⟨gb313, 5, none⟩ = some (.int .i64 0) := (blk_cell BK313.out 5).trans rfl; have hcz7_6 : w6.cell? ⟨gb313, 6, none⟩ = some (.int .i64 0) := (blk_cell BK313.out 6).trans rfl; have hfz7_0 := blk_frozen BK313.out 0; have hfz7_1 := blk_frozen BK313.out 1; have hfz7_2 := blk_frozen BK313.out 2; have hfz7_3 := blk_frozen BK313.out 3; have hfz7_4 := blk_frozen BK313.out 4; have hfz7_5 := blk_frozen BK313.out 5; have hfz7_6 := blk_frozen BK313.out 6))
      go_loopg [11, 12] k1 (fun kq v11 v12 w' => ∃ (x11_2 : List Int) (x12_2 : Int), v12 = .int .i64 x12_2 ∧ Aside0 (cohousinglaw22_dealt.l1 kq l0 a1 x7_1 x8_1 x19_1 x11_2 x12_2 l0 (l0.length : Int) x19_1 ((rd_T58 l0 x19_1).f0) ((rd_T58 l0 x19_1).f1) ((rd_T58 l0 x19_1).f2) ((rd_T58 l0 x19_1).f3) ((rd_T58 l0 x19_1).f4) ((rd_T58 l0 x19_1).f5) ((rd_T58 l0 x19_1).f6) = some (r1, r2, r3)) ∧ Aside0 (kq ≤ k1) ∧ Aside0 (Kd.N k31 31 w' w.heap.size (fun k_ => (w.heap.size ≤ k_) ∧ some k_ ≠ (u8 : Value).ownBlock ∧ some k_ ≠ (v11 : Value).ownBlock ∧ k_ ≠ gb313) u7 x7_1) ∧ Aside0 (Kd.R k23 23 w' w.heap.size (fun k_ => (w.heap.size ≤ k_)) u8 x8_1) ∧ Aside0 (Kd.R (Kd.int .i64) 3 w' w.heap.size (fun k_ => (w.heap.size ≤ k_)) v11 x11_2) ∧ Aside0 (w'.heap[gb313]? = some (.cells #[.int .u32 ((rd_T58 l0 x19_1).f0), .int .u32 ((rd_T58 l0 x19_1).f1), (.slice A312_2 ((rd_T58 l0 x19_1).f2).length c312_2), .bool ((rd_T58 l0 x19_1).f3), .int .i64 ((rd_T58 l0 x19_1).f4), .int .i64 ((rd_T58 l0 x19_1).f5), .int .i64 ((rd_T58 l0 x19_1).f6)] 58 (0, 0))) ∧ Aside0 (Below w.heap.size w w'))
      case atStart => exact ⟨(([] : List Int)), (0), (by first | rfl | (simp; done) | (simp [*]; done)), H', ⟨Nat.le_refl _⟩, ⟨by (with_reducible repeat (first | apply Kd.N_alloc | apply Kd.N_drewN | apply Kd.N_drew)); exact Kd.N_mono (Kd.N_far (p := ⟨gb313, 6, none⟩) (Kd.N_far (p := ⟨gb313, 5, none⟩) (Kd.N_far (p := ⟨gb313, 4, none⟩) (Kd.N_far (p := ⟨gb313, 3, none⟩) (Kd.N_far (p := ⟨gb313, 2, none⟩) (Kd.N_far (p := ⟨gb313, 1, none⟩) (Kd.N_far (p := ⟨gb313, 0, none⟩) (Kd.N_mono HO_7.out (fun k_ hk => (⟨hk, hk.2⟩ : _ ∧ k_ ≠ gb313))) (fun _ hk => hk.2) (.int .u32 ((rd_T58 l0 x19_1).f0))) (fun _ hk => hk.2) (.int .u32 ((rd_T58 l0 x19_1).f1))) (fun _ hk => hk.2) (.slice A312_2 ((rd_T58 l0 x19_1).f2).length c312_2)) (fun _ hk => hk.2) (.bool ((rd_T58 l0 x19_1).f3))) (fun _ hk => hk.2) (.int .i64 ((rd_T58 l0 x19_1).f4))) (fun _ hk => hk.2) (.int .i64 ((rd_T58 l0 x19_1).f5))) (fun _ hk => hk.2) (.int .i64 ((rd_T58 l0 x19_1).f6))) (fun _ hk => ⟨hk.1.1.1, ⟨hk.1.1.2, ⟨(by simp [Value.ownBlock]), hk.1.2⟩⟩⟩)⟩, ⟨by (with_reducible repeat (first | apply Kd.R_alloc | apply Kd.R_drewN | apply Kd.R_drew)); exact Kd.R_mono (Kd.R_far (p := ⟨gb313, 6, none⟩) (Kd.R_far (p := ⟨gb313, 5, none⟩) (Kd.R_far (p := ⟨gb313, 4, none⟩) (Kd.R_far (p := ⟨gb313, 3, none⟩) (Kd.R_far (p := ⟨gb313, 2, none⟩) (Kd.R_far (p := ⟨gb313, 1, none⟩) (Kd.R_far (p := ⟨gb313, 0, none⟩) (Kd.R_types HO_8.out BK313.out (by decide)) (fun _ hk => hk.2) (.int .u32 ((rd_T58 l0 x19_1).f0))) (fun _ hk => hk.2) (.int .u32 ((rd_T58 l0 x19_1).f1))) (fun _ hk => hk.2) (.slice A312_2 ((rd_T58 l0 x19_1).f2).length c312_2)) (fun _ hk => hk.2) (.bool ((rd_T58 l0 x19_1).f3))) (fun _ hk => hk.2) (.int .i64 ((rd_T58 l0 x19_1).f4))) (fun _ hk => hk.2) (.int .i64 ((rd_T58 l0 x19_1).f5))) (fun _ hk => hk.2) (.int .i64 ((rd_T58 l0 x19_1).f6))) (fun _ hk => hk.1)⟩, ⟨by first | exact Kd.R_nil _ _ _ _ _ | exact Kd.N_nil _ _ _ _ _ | exact Kd.V_nil _ _ _ _ _ | exact Kd.Q_nil _ _ _ _ _ | exact Kd.S_nil _ _ _ _ _⟩, ⟨by (with_reducible repeat (first | refine blk_drewN ?_ _ | refine blk_drew ?_ | refine blk_alloc ?_ _)); refine blk_put (cs := #[.int .u32 ((rd_T58 l0 x19_1).f0), .int .u32 ((rd_T58 l0 x19_1).f1), .slice A312_2 ((rd_T58 l0 x19_1).f2).length c312_2, .bool ((rd_T58 l0 x19_1).f3), .int .i64 ((rd_T58 l0 x19_1).f4), .int .i64 ((rd_T58 l0 x19_1).f5), .int .i64 0]) ?_ 6 _ rfl; (with_reducible repeat (first | refine blk_drewN ?_ _ | refine blk_drew ?_ | refine blk_alloc ?_ _)); refine blk_put (cs := #[.int .u32 ((rd_T58 l0 x19_1).f0), .int .u32 ((rd_T58 l0 x19_1).f1), .slice A312_2 ((rd_T58 l0 x19_1).f2).length c312_2, .bool ((rd_T58 l0 x19_1).f3), .int .i64 ((rd_T58 l0 x19_1).f4), .int .i64 0, .int .i64 0]) ?_ 5 _ rfl; (with_reducible repeat (first | refine blk_drewN ?_ _ | refine blk_drew ?_ | refine blk_alloc ?_ _)); refine blk_put (cs := #[.int .u32 ((rd_T58 l0 x19_1).f0), .int .u32 ((rd_T58 l0 x19_1).f1), .slice A312_2 ((rd_T58 l0 x19_1).f2).length c312_2, .bool ((rd_T58 l0 x19_1).f3), .int .i64 0, .int .i64 0, .int .i64 0]) ?_ 4 _ rfl; (with_reducible repeat (first | refine blk_drewN ?_ _ | refine blk_drew ?_ | refine blk_alloc ?_ _)); refine blk_put (cs := #[.int .u32 ((rd_T58 l0 x19_1).f0), .int .u32 ((rd_T58 l0 x19_1).f1), .slice A312_2 ((rd_T58 l0 x19_1).f2).length c312_2, .bool false, .int .i64 0, .int .i64 0, .int .i64 0]) ?_ 3 _ rfl; (with_reducible repeat (first | refine blk_drewN ?_ _ | refine blk_drew ?_ | refine blk_alloc ?_ _)); refine blk_put (cs := #[.int .u32 ((rd_T58 l0 x19_1).f0), .int .u32 ((rd_T58 l0 x19_1).f1), .slice none 0 0, .bool false, .int .i64 0, .int .i64 0, .int .i64 0]) ?_ 2 _ rfl; (with_reducible repeat (first | refine blk_drewN ?_ _ | refine blk_drew ?_ | refine blk_alloc ?_ _)); refine blk_put (cs := #[.int .u32 ((rd_T58 l0 x19_1).f0), .int .u32 0, .slice none 0 0, .bool false, .int .i64 0, .int .i64 0, .int .i64 0]) ?_ 1 _ rfl; (with_reducible repeat (first | refine blk_drewN ?_ _ | refine blk_drew ?_ | refine blk_alloc ?_ _)); refine blk_put (cs := #[.int .u32 0, .int .u32 0, .slice none 0 0, .bool false, .int .i64 0, .int .i64 0, .int .i64 0]) ?_ 0 _ rfl; (with_reducible repeat (first | refine blk_drewN ?_ _ | refine blk_drew ?_ | refine blk_alloc ?_ _)); exact BK313.out⟩, ⟨by repeat (first | (with_reducible first | exact HB.out | apply below_alloc | apply pw_below_drewN | apply below_drew1 | refine below_set ?_ GE313.out) | exact HB.out)⟩⟩
      case round =>
       clear H'
       try clear c2
       try clear p2
       try clear c3
       try clear c3b0
       try clear p3
       try clear q3
       try clear hx3
       try clear c4
       try clear c4b0
       try clear c5
       try clear c5b0
       try clear hcz7_0
       try clear hcz7_1
       try clear hcz7_2
       try clear hcz7_3
       try clear hcz7_4
       try clear hcz7_5
       try clear hcz7_6
       try clear hfz7_0
       try clear hfz7_1
       try clear hfz7_2
       try clear hfz7_3
       try clear hfz7_4
       try clear hfz7_5
       try clear hfz7_6
       try clear hx312_0
       try clear hx312_1
       try clear hx312_2
       try clear hx312_3
       try clear hx312_4
       try clear hx312_5
       try clear hx312_6
       try clear p2
       try clear p312
       try clear q312
       obtain ⟨x11_2, x12_2, rfl, HA, HK2, HO_7, HO_8, HO_11, BK313, HB⟩ := hrel
       cases gk with
       | zero => exact absurd HA.out (by simp [cohousinglaw22_dealt.l1])
       | succ k2 =>
        have H := HA.out
        clear HA
        simp only [cohousinglaw22_dealt.l1] at H
        by_cases c8 : x12_2 < (wrap64 (a1 - 1))
        ·
         rw [if_pos c8] at H
         have c8b0 : decide (x12_2 < (wrap64 (a1 - 1))) = true := decide_eq_true c8
         clear c8
         by_cases c9 : x12_2 < (((rd_T58 l0 x19_1).f2).length : Int)
         ·
          rw [if_pos c9] at H
          have c9b0 : decide (x12_2 < (((rd_T58 l0 x19_1).f2).length : Int)) = true := decide_eq_true c9
          clear c9
          by_cases c10 : 0 ≤ x12_2
          ·
           rw [if_pos c10] at H
           have c10b0 : decide (0 ≤ x12_2) = true := decide_eq_true c10
           clear c10
           replace H := Option.bind_eq_some_iff.mp H
           obtain ⟨t315, A110, H⟩ := H
           replace H : ((some (([t315] : List Int) : List Int)).bind fun y316 => (if x11_2.length + y316.length < 17592186044416 then (cohousinglaw22_dealt.l1 k2 l0 a1 x7_1 x8_1 x19_1 (x11_2 ++ y316) (wrap64 (x12_2 + 1)) l0 (l0.length : Int) x19_1 ((rd_T58 l0 x19_1).f0) ((rd_T58 l0 x19_1).f1) ((rd_T58 l0 x19_1).f2) ((rd_T58 l0 x19_1).f3) ((rd_T58 l0 x19_1).f4) ((rd_T58 l0 x19_1).f5) ((rd_T58 l0 x19_1).f6)) else (none))) = some (r1, r2, r3) := H
           have A11 := Aside0.mk A110
           clear A110
           obtain ⟨y316, hy316⟩ : ∃ y_ : List Int, y_ = (([t315] : List Int)) := ⟨_, rfl⟩
           replace H : (if x11_2.length + y316.length < 17592186044416 then (cohousinglaw22_dealt.l1 k2 l0 a1 x7_1 x8_1 x19_1 (x11_2 ++ y316) (wrap64 (x12_2 + 1)) l0 (l0.length : Int) x19_1 ((rd_T58 l0 x19_1).f0) ((rd_T58 l0 x19_1).f1) ((rd_T58 l0 x19_1).f2) ((rd_T58 l0 x19_1).f3) ((rd_T58 l0 x19_1).f4) ((rd_T58 l0 x19_1).f5) ((rd_T58 l0 x19_1).f6)) else (none)) = some (r1, r2, r3) := by first | (rw [hy316]; with_reducible exact H) | (have H2_ := (Option.bind_some _ _).symm.trans H; rw [hy316]; with_reducible exact H2_) | (have H2_ := (Option.bind_some _ _).symm.trans H; with_reducible exact H2_) | with_reducible exact H | (rw [hy316]; exact H) | exact H
           have Ny316 := Aside0.mk hy316
           clear hy316
           by_cases c12 : x11_2.length + y316.length < 17592186044416
           ·
            rw [if_pos c12] at H
            have LMc12 := Aside0.mk c12
            clear c12
            obtain ⟨y319, hy319⟩ : ∃ y_ : List Int, y_ = (x11_2 ++ y316) := ⟨_, rfl⟩
            replace H : (cohousinglaw22_dealt.l1 k2 l0 a1 x7_1 x8_1 x19_1 y319 (wrap64 (x12_2 + 1)) l0 (l0.length : Int) x19_1 ((rd_T58 l0 x19_1).f0) ((rd_T58 l0 x19_1).f1) ((rd_T58 l0 x19_1).f2) ((rd_T58 l0 x19_1).f3) ((rd_T58 l0 x19_1).f4) ((rd_T58 l0 x19_1).f5) ((rd_T58 l0 x19_1).f6)) = some (r1, r2, r3) := by first | (rw [hy319]; with_reducible exact H) | (have H2_ := (Option.bind_some _ _).symm.trans H; rw [hy319]; with_reducible exact H2_) | (have H2_ := (Option.bind_some _ _).symm.trans H; with_reducible exact H2_) | with_reducible exact H | (rw [hy319]; exact H) | exact H
            have Ny319 := Aside0.mk hy319
            clear hy319
            have H' := Aside0.mk H
            clear H
            have hcz13_0 : wr.cell? ⟨gb313, 0, none⟩ = some (.int .u32 ((rd_T58 l0 x19_1).f0)) := (blk_cell BK313.out 0).trans rfl
            have hcz13_1 : wr.cell? ⟨gb313, 1, none⟩ = some (.int .u32 ((rd_T58 l0 x19_1).f1)) := (blk_cell BK313.out 1).trans rfl
            have hcz13_2 : wr.cell? ⟨gb313, 2, none⟩ = some (.slice A312_2 ((rd_T58 l0 x19_1).f2).length c312_2) := (blk_cell BK313.out 2).trans rfl
            have hcz13_3 : wr.cell? ⟨gb313, 3, none⟩ = some (.bool ((rd_T58 l0 x19_1).f3)) := (blk_cell BK313.out 3).trans rfl
            have hcz13_4 : wr.cell? ⟨gb313, 4, none⟩ = some (.int .i64 ((rd_T58 l0 x19_1).f4)) := (blk_cell BK313.out 4).trans rfl
            have hcz13_5 : wr.cell? ⟨gb313, 5, none⟩ = some (.int .i64 ((rd_T58 l0 x19_1).f5)) := (blk_cell BK313.out 5).trans rfl
            have hcz13_6 : wr.cell? ⟨gb313, 6, none⟩ = some (.int .i64 ((rd_T58 l0 x19_1).f6)) := (blk_cell BK313.out 6).trans rfl
            have hfz13_0 := blk_frozen BK313.out 0
            have hfz13_1 := blk_frozen BK313.out 1
            have hfz13_2 := blk_frozen BK313.out 2
            have hfz13_3 := blk_frozen BK313.out 3
            have hfz13_4 := blk_frozen BK313.out 4
            have hfz13_5 := blk_frozen BK313.out 5
            have hfz13_6 := blk_frozen BK313.out 6
            have p314 : 0 ≤ (x12_2 : Int) := of_decide_eq_true (by first | (with_reducible assumption) | assumption)
            have q314 : x12_2 < (((rd_T58 l0 x19_1).f2).length : Int) := of_decide_eq_true (by first | (with_reducible assumption) | assumption)
            obtain ⟨ad314, e314, hx314_0⟩ := Kd.at_int HR312_2.out x12_2 p314 q314
            cases e314
            replace hx314_0 := (HB.out.cell (World.block_lt_of_cell? w _ hx314_0)).trans hx314_0
            replace p314 := eq_true p314
            replace q314 := eq_true q314
            go_wp2_with (first | ((with_reducible refine gate_callee (f := 47) rfl ?_); refine goesL_ (some 40) rfl rfl Tryd.func47 (by kernel_rfl) rfl #[.int .u32 (rd ((rd_T58 l0 x19_1).f2) x12_2)] rfl (by (try simp only [List.map_toArray, List.map_cons, List.map_nil]); first | done | rfl | (simp only [List.length_drop, List.length_take]; rfl)) ?_; (with_reducible refine (cohousinglaw22_residue.calls (rd ((rd_T58 l0 x19_1).f2) x12_2) t315 _ A11.out).mono ?_); rintro e w' ⟨rfl, ⟨nd, rfl⟩⟩; refine ⟨_, rfl, ?_⟩) | ((with_reducible refine gate_dst (N := 43) rfl ?_); (try (refine gate_guard (by rfl) ?_; dsimp only)); refine Kd.R_lit (Kd.int .i64) _ 3 ?hg (N := 43) ?hd (xs := ([t315] : List Int)) (inner := [.int .i64 t315]) (ok := fun _ => True) (okp := fun _ => True) ?hr ?hp (fun _ hk => hk) trivial (Below.refl _ _) (Nat.le_refl _) (by simp) ?_; (case hd => rfl); (case hg => rfl); (case hr => first | (go_simp; done) | (go_simp; rfl)); (case hp => exact (Reps.one (show Kd.M (Kd.int .i64) _ _ _ t315 [.int .i64 t315] from rfl) (Reps.none _ _))); intro v317 w14 ho15 hb hg_ hnew_; clear hg_ hnew_; (first | rw [← Ny316.out] at ho15 | (simp only [Int.reduceToNat] at ho15; rw [← Ny316.out] at ho15)); have n0_ := Aside0.mk (Kd.N_elder' (by (with_reducible repeat (first | apply Kd.N_alloc | apply Kd.N_drewN | apply Kd.N_drew)); exact HO_7.out) (Kd.R_base ho15) hb); have n1_ := Aside0.mk (Kd.R_below (by (with_reducible repeat (first | apply Kd.R_alloc | apply Kd.R_drewN | apply Kd.R_drew)); exact HO_8.out) hb); have n2_ := Aside0.mk (Kd.R_elder' (by (with_reducible repeat (first | apply Kd.R_alloc | apply Kd.R_drewN | apply Kd.R_drew)); exact HO_11.out) (Kd.R_base ho15) hb); have n3_ := Aside0.mk (Kd.R_lower (Kd.R_new' (Kd.R_newM (M := fun k_ => (w.heap.size ≤ k_)) ho15 (below_size (by repeat (first | (with_reducible first | exact HB.out | apply below_alloc | apply pw_below_drewN | apply below_drew1 | refine below_set ?_ GE313.out) | exact HB.out))) (fun k_ h_ => h_)) (Kd.R_lt (by (with_reducible repeat (first | apply Kd.R_alloc | apply Kd.R_drewN | apply Kd.R_drew)); exact HO_11.out))) (below_size (by repeat (first | (with_reducible first | exact HB.out | apply below_alloc | apply pw_below_drewN | apply below_drew1 | refine below_set ?_ GE313.out) | exact HB.out)))); have n4_ := Aside0.mk (blk_below (g := gb313) (o := .cells #[.int .u32 ((rd_T58 l0 x19_1).f0), .int .u32 ((rd_T58 l0 x19_1).f1), .slice (some ad314) ((rd_T58 l0 x19_1).f2).length c312_2, .bool ((rd_T58 l0 x19_1).f3), .int .i64 ((rd_T58 l0 x19_1).f4), .int .i64 ((rd_T58 l0 x19_1).f5), .int .i64 ((rd_T58 l0 x19_1).f6)] 58 (0, 0)) (by (with_reducible repeat (first | refine blk_drewN ?_ _ | refine blk_drew ?_ | refine blk_alloc ?_ _)); exact BK313.out) hb); have n5_ := Aside0.mk (below_step (by repeat (first | (with_reducible first | exact HB.out | apply below_alloc | apply pw_below_drewN | apply below_drew1 | refine below_set ?_ GE313.out) | exact HB.out)) hb); clear HO_7; clear HO_8; clear HO_11; clear BK313; clear HB; have HO_7 := n0_; have HO_8 := n1_; have HO_11 := n2_; have HO318 := n3_; have BK313 := n4_; have HB := n5_; clear n0_ n1_ n2_ n3_ n4_ n5_; clear hb ho15; obtain ⟨Ao17, co17, eo17⟩ := Kd.R_slice HO318.out; subst eo17) | ((with_reducible refine gate_builtin (b := .append) (xs := #[.tmp 41, .tmp 43]) rfl ?_); (try (refine gate_guard (by rfl) ?_; dsimp only)); at_builtin; refine Kd.R_append_rows (Kd.int .i64) (w0 := w) w.heap.size rfl (.tmp 41) (.tmp 43) 24 3 (.int .i64 0) 8 rfl Tryd.underlying24 info3 rfl (by decide) (by omega) u11 x11_2 y316 _ _ _ (fun k_ => (w.heap.size ≤ k_) ∧ some k_ ≠ (.slice Ao17 y316.length co17 : Value).ownBlock) (fun _ => False) rfl rfl ?aO ?aR (fun _ _ h => h) (fun _ h => h.elim) ?aF ?aB ?aS ?aL ?_; (case aR => repeat (first | exact (Kd.R_reads' HO318.out).2.2 | (with_reducible refine Kd.C_alloc ?_ _) | (with_reducible refine Kd.C_drewN ?_ _) | (with_reducible refine Kd.C_drew ?_))); (case aB => exact (by repeat (first | (with_reducible first | exact HB.out | apply below_alloc | apply pw_below_drewN | apply below_drew1 | refine below_set ?_ GE313.out) | exact HB.out))); (case aF => exact (fun k_ hk => ⟨(Nat.le_trans (below_size (by repeat (first | (with_reducible first | exact HB.out | apply below_alloc | apply pw_below_drewN | apply below_drew1 | refine below_set ?_ GE313.out) | exact HB.out))) hk), Kd.fresh' (Kd.R_lt (by (with_reducible repeat (first | apply Kd.R_alloc | apply Kd.R_drewN | apply Kd.R_drew)); exact HO318.out)) k_ hk⟩)); (case aO => exact (by (with_reducible repeat (first | apply Kd.R_alloc | apply Kd.R_drewN | apply Kd.R_drew)); exact HO_11.out)); (case aS => exact (below_size (by repeat (first | (with_reducible first | exact HB.out | apply below_alloc | apply pw_below_drewN | apply below_drew1 | refine below_set ?_ GE313.out) | exact HB.out)))); (case aL => have := LMc12.out; omega); intro v320 w16 ho hb hg hat; rw [← Ny319.out] at ho; have n0_ := Aside0.mk (Kd.N_afterv (ok := (fun k_ => (w.heap.size ≤ k_) ∧ some k_ ≠ (u8 : Value).ownBlock ∧ some k_ ≠ (.slice Ao17 y316.length co17 : Value).ownBlock ∧ k_ ≠ gb313)) (by (with_reducible repeat (first | apply Kd.N_alloc | apply Kd.N_drewN | apply Kd.N_drew)); exact Kd.N_mono HO_7.out (fun _ hk => ⟨⟨hk.1.1, ⟨hk.1.2.1, ⟨hk.2, hk.1.2.2.2⟩⟩⟩, hk.1.2.2.1⟩)) hg hat); have n1_ := Aside0.mk (Kd.R_over' (by (with_reducible repeat (first | apply Kd.R_alloc | apply Kd.R_drewN | apply Kd.R_drew)); exact HO_8.out) (Kd.R_typed (by (with_reducible repeat (first | apply Kd.R_alloc | apply Kd.R_drewN | apply Kd.R_drew)); exact HO_11.out)) (by decide) hg); have n2_ := Aside0.mk (blk_grown (g := gb313) (o := .cells #[.int .u32 ((rd_T58 l0 x19_1).f0), .int .u32 ((rd_T58 l0 x19_1).f1), .slice (some ad314) ((rd_T58 l0 x19_1).f2).length c312_2, .bool ((rd_T58 l0 x19_1).f3), .int .i64 ((rd_T58 l0 x19_1).f4), .int .i64 ((rd_T58 l0 x19_1).f5), .int .i64 ((rd_T58 l0 x19_1).f6)] 58 (0, 0)) (by (with_reducible repeat (first | refine blk_drewN ?_ _ | refine blk_drew ?_ | refine blk_alloc ?_ _)); exact BK313.out) hg (Kd.R_ne HO_11.out BK313.out (by decide))); have n3_ := Aside0.mk (Kd.R_after (ok := (fun k_ => (w.heap.size ≤ k_))) (by (with_reducible repeat (first | apply Kd.R_alloc | apply Kd.R_drewN | apply Kd.R_drew)); exact Kd.R_mono HO318.out (fun _ hk => ⟨hk.1.1, hk.2⟩)) hg hat); have n4_ := Aside0.mk (hb); have n5_ := Aside0.mk (ho); clear HO_7; clear HO_8; clear BK313; clear HO318; clear HB; clear HO_11; have HO_7 := n0_; have HO_8 := n1_; have BK313 := n2_; have HO318 := n3_; have HB := n4_; have HO321 := n5_; clear n0_ n1_ n2_ n3_ n4_ n5_; clear ho hb hg hat))
            go_roundg k2
            case measure => have := HK1.out; have := HK2.out; omega
            case rel => exact ⟨(y319), (wrap64 (x12_2 + 1)), (by first | rfl | (simp; done) | (simp [*]; done)), H', ⟨by have := HK1.out; have := HK2.out; omega⟩, ⟨by (with_reducible repeat (first | apply Kd.N_alloc | apply Kd.N_drewN | apply Kd.N_drew)); exact Kd.N_mono HO_7.out (fun _ hk => ⟨hk.1.1, ⟨hk.1.2.1, ⟨hk.2, hk.1.2.2.2⟩⟩⟩)⟩, ⟨by (with_reducible repeat (first | apply Kd.R_alloc | apply Kd.R_drewN | apply Kd.R_drew)); exact HO_8.out⟩, ⟨by (with_reducible repeat (first | apply Kd.R_alloc | apply Kd.R_drewN | apply Kd.R_drew)); exact Kd.R_mono HO321.out (fun _ hk => hk.1)⟩, ⟨by (with_reducible repeat (first | refine blk_drewN ?_ _ | refine blk_drew ?_ | refine blk_alloc ?_ _)); exact BK313.out⟩, ⟨by repeat (first | (with_reducible first | exact HB.out | apply below_alloc | apply pw_below_drewN | apply below_drew1 | refine below_set ?_ GE313.out) | exact HB.out)⟩⟩
           ·
            rw [if_neg c12] at H
            exact absurd H (by simp)
          ·
           rw [if_neg c10] at H
           exact absurd H (by simp)
         ·
          rw [if_neg c9] at H
          have c9b0 : decide (x12_2 < (((rd_T58 l0 x19_1).f2).length : Int)) = false := decide_eq_false c9
          clear c9
          obtain ⟨y322, hy322⟩ : ∃ y_ : List Int, y_ = (([0] : List Int)) := ⟨_, rfl⟩
          replace H : (if x11_2.length + y322.length < 17592186044416 then (cohousinglaw22_dealt.l1 k2 l0 a1 x7_1 x8_1 x19_1 (x11_2 ++ y322) (wrap64 (x12_2 + 1)) l0 (l0.length : Int) x19_1 ((rd_T58 l0 x19_1).f0) ((rd_T58 l0 x19_1).f1) ((rd_T58 l0 x19_1).f2) ((rd_T58 l0 x19_1).f3) ((rd_T58 l0 x19_1).f4) ((rd_T58 l0 x19_1).f5) ((rd_T58 l0 x19_1).f6)) else (none)) = some (r1, r2, r3) := by first | (rw [hy322]; with_reducible exact H) | (have H2_ := (Option.bind_some _ _).symm.trans H; rw [hy322]; with_reducible exact H2_) | (have H2_ := (Option.bind_some _ _).symm.trans H; with_reducible exact H2_) | with_reducible exact H | (rw [hy322]; exact H) | exact H
          have Ny322 := Aside0.mk hy322
          clear hy322
          by_cases c18 : x11_2.length + y322.length < 17592186044416
          ·
           rw [if_pos c18] at H
           have LMc18 := Aside0.mk c18
           clear c18
           obtain ⟨y325, hy325⟩ : ∃ y_ : List Int, y_ = (x11_2 ++ y322) := ⟨_, rfl⟩
           replace H : (cohousinglaw22_dealt.l1 k2 l0 a1 x7_1 x8_1 x19_1 y325 (wrap64 (x12_2 + 1)) l0 (l0.length : Int) x19_1 ((rd_T58 l0 x19_1).f0) ((rd_T58 l0 x19_1).f1) ((rd_T58 l0 x19_1).f2) ((rd_T58 l0 x19_1).f3) ((rd_T58 l0 x19_1).f4) ((rd_T58 l0 x19_1).f5) ((rd_T58 l0 x19_1).f6)) = some (r1, r2, r3) := by first | (rw [hy325]; with_reducible exact H) | (have H2_ := (Option.bind_some _ _).symm.trans H; rw [hy325]; with_reducible exact H2_) | (have H2_ := (Option.bind_some _ _).symm.trans H; with_reducible exact H2_) | with_reducible exact H | (rw [hy325]; exact H) | exact H
           have Ny325 := Aside0.mk hy325
           clear hy325
           have H' := Aside0.mk H
           clear H
           have hcz19_0 : wr.cell? ⟨gb313, 0, none⟩ = some (.int .u32 ((rd_T58 l0 x19_1).f0)) := (blk_cell BK313.out 0).trans rfl
           have hcz19_1 : wr.cell? ⟨gb313, 1, none⟩ = some (.int .u32 ((rd_T58 l0 x19_1).f1)) := (blk_cell BK313.out 1).trans rfl
           have hcz19_2 : wr.cell? ⟨gb313, 2, none⟩ = some (.slice A312_2 ((rd_T58 l0 x19_1).f2).length c312_2) := (blk_cell BK313.out 2).trans rfl
           have hcz19_3 : wr.cell? ⟨gb313, 3, none⟩ = some (.bool ((rd_T58 l0 x19_1).f3)) := (blk_cell BK313.out 3).trans rfl
           have hcz19_4 : wr.cell? ⟨gb313, 4, none⟩ = some (.int .i64 ((rd_T58 l0 x19_1).f4)) := (blk_cell BK313.out 4).trans rfl
           have hcz19_5 : wr.cell? ⟨gb313, 5, none⟩ = some (.int .i64 ((rd_T58 l0 x19_1).f5)) := (blk_cell BK313.out 5).trans rfl
           have hcz19_6 : wr.cell? ⟨gb313, 6, none⟩ = some (.int .i64 ((rd_T58 l0 x19_1).f6)) := (blk_cell BK313.out 6).trans rfl
           have hfz19_0 := blk_frozen BK313.out 0
           have hfz19_1 := blk_frozen BK313.out 1
           have hfz19_2 := blk_frozen BK313.out 2
           have hfz19_3 := blk_frozen BK313.out 3
           have hfz19_4 := blk_frozen BK313.out 4
           have hfz19_5 := blk_frozen BK313.out 5
           have hfz19_6 := blk_frozen BK313.out 6
           go_wp2_with (first | ((with_reducible refine gate_dst (N := 43) rfl ?_); (try (refine gate_guard (by rfl) ?_; dsimp only)); refine Kd.R_lit (Kd.int .i64) _ 3 ?hg (N := 43) ?hd (xs := ([0] : List Int)) (inner := [.int .i64 0]) (ok := fun _ => True) (okp := fun _ => True) ?hr ?hp (fun _ hk => hk) trivial (Below.refl _ _) (Nat.le_refl _) (by simp) ?_; (case hd => rfl); (case hg => rfl); (case hr => first | (go_simp; done) | (go_simp; rfl)); (case hp => exact (Reps.one (show Kd.M (Kd.int .i64) _ _ _ 0 [.int .i64 0] from rfl) (Reps.none _ _))); intro v323 w20 ho21 hb hg_ hnew_; clear hg_ hnew_; (first | rw [← Ny322.out] at ho21 | (simp only [Int.reduceToNat] at ho21; rw [← Ny322.out] at ho21)); have n0_ := Aside0.mk (Kd.N_elder' (by (with_reducible repeat (first | apply Kd.N_alloc | apply Kd.N_drewN | apply Kd.N_drew)); exact HO_7.out) (Kd.R_base ho21) hb); have n1_ := Aside0.mk (Kd.R_below (by (with_reducible repeat (first | apply Kd.R_alloc | apply Kd.R_drewN | apply Kd.R_drew)); exact HO_8.out) hb); have n2_ := Aside0.mk (Kd.R_elder' (by (with_reducible repeat (first | apply Kd.R_alloc | apply Kd.R_drewN | apply Kd.R_drew)); exact HO_11.out) (Kd.R_base ho21) hb); have n3_ := Aside0.mk (Kd.R_lower (Kd.R_new' (Kd.R_newM (M := fun k_ => (w.heap.size ≤ k_)) ho21 (below_size (by repeat (first | (with_reducible first | exact HB.out | apply below_alloc | apply pw_below_drewN | apply below_drew1 | refine below_set ?_ GE313.out) | exact HB.out))) (fun k_ h_ => h_)) (Kd.R_lt (by (with_reducible repeat (first | apply Kd.R_alloc | apply Kd.R_drewN | apply Kd.R_drew)); exact HO_11.out))) (below_size (by repeat (first | (with_reducible first | exact HB.out | apply below_alloc | apply pw_below_drewN | apply below_drew1 | refine below_set ?_ GE313.out) | exact HB.out)))); have n4_ := Aside0.mk (blk_below (g := gb313) (o := .cells #[.int .u32 ((rd_T58 l0 x19_1).f0), .int .u32 ((rd_T58 l0 x19_1).f1), .slice A312_2 ((rd_T58 l0 x19_1).f2).length c312_2, .bool ((rd_T58 l0 x19_1).f3), .int .i64 ((rd_T58 l0 x19_1).f4), .int .i64 ((rd_T58 l0 x19_1).f5), .int .i64 ((rd_T58 l0 x19_1).f6)] 58 (0, 0)) (by (with_reducible repeat (first | refine blk_drewN ?_ _ | refine blk_drew ?_ | refine blk_alloc ?_ _)); exact BK313.out) hb); have n5_ := Aside0.mk (below_step (by repeat (first | (with_reducible first | exact HB.out | apply below_alloc | apply pw_below_drewN | apply below_drew1 | refine below_set ?_ GE313.out) | exact HB.out)) hb); clear HO_7; clear HO_8; clear HO_11; clear BK313; clear HB; have HO_7 := n0_; have HO_8 := n1_; have HO_11 := n2_; have HO324 := n3_; have BK313 := n4_; have HB := n5_; clear n0_ n1_ n2_ n3_ n4_ n5_; clear hb ho21; obtain ⟨Ao23, co23, eo23⟩ := Kd.R_slice HO324.out; subst eo23) | ((with_reducible refine gate_builtin (b := .append) (xs := #[.tmp 41, .tmp 43]) rfl ?_); (try (refine gate_guard (by rfl) ?_; dsimp only)); at_builtin; refine Kd.R_append_rows (Kd.int .i64) (w0 := w) w.heap.size rfl (.tmp 41) (.tmp 43) 24 3 (.int .i64 0) 8 rfl Tryd.underlying24 info3 rfl (by decide) (by omega) u11 x11_2 y322 _ _ _ (fun k_ => (w.heap.size ≤ k_) ∧ some k_ ≠ (.slice Ao23 y322.length co23 : Value).ownBlock) (fun _ => False) rfl rfl ?aO ?aR (fun _ _ h => h) (fun _ h => h.elim) ?aF ?aB ?aS ?aL ?_; (case aR => repeat (first | exact (Kd.R_reads' HO324.out).2.2 | (with_reducible refine Kd.C_alloc ?_ _) | (with_reducible refine Kd.C_drewN ?_ _) | (with_reducible refine Kd.C_drew ?_))); (case aB => exact (by repeat (first | (with_reducible first | exact HB.out | apply below_alloc | apply pw_below_drewN | apply below_drew1 | refine below_set ?_ GE313.out) | exact HB.out))); (case aF => exact (fun k_ hk => ⟨(Nat.le_trans (below_size (by repeat (first | (with_reducible first | exact HB.out | apply below_alloc | apply pw_below_drewN | apply below_drew1 | refine below_set ?_ GE313.out) | exact HB.out))) hk), Kd.fresh' (Kd.R_lt (by (with_reducible repeat (first | apply Kd.R_alloc | apply Kd.R_drewN | apply Kd.R_drew)); exact HO324.out)) k_ hk⟩)); (case aO => exact (by (with_reducible repeat (first | apply Kd.R_alloc | apply Kd.R_drewN | apply Kd.R_drew)); exact HO_11.out)); (case aS => exact (below_size (by repeat (first | (with_reducible first | exact HB.out | apply below_alloc | apply pw_below_drewN | apply below_drew1 | refine below_set ?_ GE313.out) | exact HB.out)))); (case aL => have := LMc18.out; omega); intro v326 w22 ho hb hg hat; rw [← Ny325.out] at ho; have n0_ := Aside0.mk (Kd.N_afterv (ok := (fun k_ => (w.heap.size ≤ k_) ∧ some k_ ≠ (u8 : Value).ownBlock ∧ some k_ ≠ (.slice Ao23 y322.length co23 : Value).ownBlock ∧ k_ ≠ gb313)) (by (with_reducible repeat (first | apply Kd.N_alloc | apply Kd.N_drewN | apply Kd.N_drew)); exact Kd.N_mono HO_7.out (fun _ hk => ⟨⟨hk.1.1, ⟨hk.1.2.1, ⟨hk.2, hk.1.2.2.2⟩⟩⟩, hk.1.2.2.1⟩)) hg hat); have n1_ := Aside0.mk (Kd.R_over' (by (with_reducible repeat (first | apply Kd.R_alloc | apply Kd.R_drewN | apply Kd.R_drew)); exact HO_8.out) (Kd.R_typed (by (with_reducible repeat (first | apply Kd.R_alloc | apply Kd.R_drewN | apply Kd.R_drew)); exact HO_11.out)) (by decide) hg); have n2_ := Aside0.mk (blk_grown (g := gb313) (o := .cells #[.int .u32 ((rd_T58 l0 x19_1).f0), .int .u32 ((rd_T58 l0 x19_1).f1), .slice A312_2 ((rd_T58 l0 x19_1).f2).length c312_2, .bool ((rd_T58 l0 x19_1).f3), .int .i64 ((rd_T58 l0 x19_1).f4), .int .i64 ((rd_T58 l0 x19_1).f5), .int .i64 ((rd_T58 l0 x19_1).f6)] 58 (0, 0)) (by (with_reducible repeat (first | refine blk_drewN ?_ _ | refine blk_drew ?_ | refine blk_alloc ?_ _)); exact BK313.out) hg (Kd.R_ne HO_11.out BK313.out (by decide))); have n3_ := Aside0.mk (Kd.R_after (ok := (fun k_ => (w.heap.size ≤ k_))) (by (with_reducible repeat (first | apply Kd.R_alloc | apply Kd.R_drewN | apply Kd.R_drew)); exact Kd.R_mono HO324.out (fun _ hk => ⟨hk.1.1, hk.2⟩)) hg hat); have n4_ := Aside0.mk (hb); have n5_ := Aside0.mk (ho); clear HO_7; clear HO_8; clear BK313; clear HO324; clear HB; clear HO_11; have HO_7 := n0_; have HO_8 := n1_; have BK313 := n2_; have HO324 := n3_; have HB := n4_; have HO327 := n5_; clear n0_ n1_ n2_ n3_ n4_ n5_; clear ho hb hg hat))
           go_roundg k2
           case measure => have := HK1.out; have := HK2.out; omega
           case rel => exact ⟨(y325), (wrap64 (x12_2 + 1)), (by first | rfl | (simp; done) | (simp [*]; done)), H', ⟨by have := HK1.out; have := HK2.out; omega⟩, ⟨by (with_reducible repeat (first | apply Kd.N_alloc | apply Kd.N_drewN | apply Kd.N_drew)); exact Kd.N_mono HO_7.out (fun _ hk => ⟨hk.1.1, ⟨hk.1.2.1, ⟨hk.2, hk.1.2.2.2⟩⟩⟩)⟩, ⟨by (with_reducible repeat (first | apply Kd.R_alloc | apply Kd.R_drewN | apply Kd.R_drew)); exact HO_8.out⟩, ⟨by (with_reducible repeat (first | apply Kd.R_alloc | apply Kd.R_drewN | apply Kd.R_drew)); exact Kd.R_mono HO327.out (fun _ hk => hk.1)⟩, ⟨by (with_reducible repeat (first | refine blk_drewN ?_ _ | refine blk_drew ?_ | refine blk_alloc ?_ _)); exact BK313.out⟩, ⟨by repeat (first | (with_reducible first | exact HB.out | apply below_alloc | apply pw_below_drewN | apply below_drew1 | refine below_set ?_ GE313.out) | exact HB.out)⟩⟩
          ·
           rw [if_neg c18] at H
           exact absurd H (by simp)
        ·
         rw [if_neg c8] at H
         have c8b0 : decide (x12_2 < (wrap64 (a1 - 1))) = false := decide_eq_false c8
         clear c8
         replace H := Option.bind_eq_some_iff.mp H
         obtain ⟨t328, A240, H⟩ := H
         replace H : ((cohousinglaw22_residue.f ((rd_T58 l0 x19_1).f1)).bind fun t329 => ((lottery_Deal.f k2 (wrap64 (x19_1 + 1)) t328 t329 x11_2 (l0.length : Int)).bind fun bt331 => (if bt331.2.2.2 = 0 then (if (bt331.2.2.1.length : Int) = (l0.length : Int) then ((some (([(⟨bt331.1, bt331.2.1, bt331.2.2.1⟩ : S31)] : List (S31)) : List (S31))).bind fun y338 => (if x7_1.length + y338.length < 3518437208883 then ((some (([(⟨wrap64 (x19_1 + 1), t328, t329⟩ : S23)] : List (S23)) : List (S23))).bind fun y344 => (if x8_1.length + y344.length < 5864062014805 then (cohousinglaw22_dealt.l0 k2 l0 a1 (x7_1 ++ y338) (x8_1 ++ y344) l0 (l0.length : Int) (wrap64 (x19_1 + 1))) else (none))) else (none))) else (some (([] : List (S31)), ([] : List (S23)), false))) else (some (([] : List (S31)), ([] : List (S23)), false))))) = some (r1, r2, r3) := H
         have A24 := Aside0.mk A240
         clear A240
         replace H := Option.bind_eq_some_iff.mp H
         obtain ⟨t329, A250, H⟩ := H
         replace H : ((lottery_Deal.f k2 (wrap64 (x19_1 + 1)) t328 t329 x11_2 (l0.length : Int)).bind fun bt331 => (if bt331.2.2.2 = 0 then (if (bt331.2.2.1.length : Int) = (l0.length : Int) then ((some (([(⟨bt331.1, bt331.2.1, bt331.2.2.1⟩ : S31)] : List (S31)) : List (S31))).bind fun y338 => (if x7_1.length + y338.length < 3518437208883 then ((some (([(⟨wrap64 (x19_1 + 1), t328, t329⟩ : S23)] : List (S23)) : List (S23))).bind fun y344 => (if x8_1.length + y344.length < 5864062014805 then (cohousinglaw22_dealt.l0 k2 l0 a1 (x7_1 ++ y338) (x8_1 ++ y344) l0 (l0.length : Int) (wrap64 (x19_1 + 1))) else (none))) else (none))) else (some (([] : List (S31)), ([] : List (S23)), false))) else (some (([] : List (S31)), ([] : List (S23)), false)))) = some (r1, r2, r3) := H
         have A25 := Aside0.mk A250
         clear A250
         replace H := Option.bind_eq_some_iff.mp H
         obtain ⟨⟨t331, t332, t333, t336⟩, A260, H⟩ := H
         replace H : (if t336 = 0 then (if (t333.length : Int) = (l0.length : Int) then ((some (([(⟨t331, t332, t333⟩ : S31)] : List (S31)) : List (S31))).bind fun y338 => (if x7_1.length + y338.length < 3518437208883 then ((some (([(⟨wrap64 (x19_1 + 1), t328, t329⟩ : S23)] : List (S23)) : List (S23))).bind fun y344 => (if x8_1.length + y344.length < 5864062014805 then (cohousinglaw22_dealt.l0 k2 l0 a1 (x7_1 ++ y338) (x8_1 ++ y344) l0 (l0.length : Int) (wrap64 (x19_1 + 1))) else (none))) else (none))) else (some (([] : List (S31)), ([] : List (S23)), false))) else (some (([] : List (S31)), ([] : List (S23)), false))) = some (r1, r2, r3) := H
         have A26 := Aside0.mk A260
         clear A260
         by_cases c27 : t336 = 0
         ·
          rw [if_pos c27] at H
          have c27b0 : (t336 == 0) = true := beq_iff_eq.mpr c27
          have c27b1 : (t336 != 0) = false := bne_eq_false_iff_eq.mpr c27
          clear c27
          by_cases c28 : (t333.length : Int) = (l0.length : Int)
          ·
           rw [if_pos c28] at H
           have c28b0 : ((t333.length : Int) == (l0.length : Int)) = true := beq_iff_eq.mpr c28
           have c28b1 : ((t333.length : Int) != (l0.length : Int)) = false := bne_eq_false_iff_eq.mpr c28
           have c28b2 : (t333.length == l0.length) = true := by first | simpa using c28 | (simp at c28 ⊢; omega)
           clear c28
           obtain ⟨y338, hy338⟩ : ∃ y_ : List (S31), y_ = (([(⟨t331, t332, t333⟩ : S31)] : List (S31))) := ⟨_, rfl⟩
           replace H : (if x7_1.length + y338.length < 3518437208883 then ((some (([(⟨wrap64 (x19_1 + 1), t328, t329⟩ : S23)] : List (S23)) : List (S23))).bind fun y344 => (if x8_1.length + y344.length < 5864062014805 then (cohousinglaw22_dealt.l0 k2 l0 a1 (x7_1 ++ y338) (x8_1 ++ y344) l0 (l0.length : Int) (wrap64 (x19_1 + 1))) else (none))) else (none)) = some (r1, r2, r3) := by first | (rw [hy338]; with_reducible exact H) | (have H2_ := (Option.bind_some _ _).symm.trans H; rw [hy338]; with_reducible exact H2_) | (have H2_ := (Option.bind_some _ _).symm.trans H; with_reducible exact H2_) | with_reducible exact H | (rw [hy338]; exact H) | exact H
           have Ny338 := Aside0.mk hy338
           clear hy338
           by_cases c29 : x7_1.length + y338.length < 3518437208883
           ·
            rw [if_pos c29] at H
            have LMc29 := Aside0.mk c29
            clear c29
            obtain ⟨y341, hy341⟩ : ∃ y_ : List (S31), y_ = (x7_1 ++ y338) := ⟨_, rfl⟩
            replace H : ((some (([(⟨wrap64 (x19_1 + 1), t328, t329⟩ : S23)] : List (S23)) : List (S23))).bind fun y344 => (if x8_1.length + y344.length < 5864062014805 then (cohousinglaw22_dealt.l0 k2 l0 a1 y341 (x8_1 ++ y344) l0 (l0.length : Int) (wrap64 (x19_1 + 1))) else (none))) = some (r1, r2, r3) := by first | (rw [hy341]; with_reducible exact H) | (have H2_ := (Option.bind_some _ _).symm.trans H; rw [hy341]; with_reducible exact H2_) | (have H2_ := (Option.bind_some _ _).symm.trans H; with_reducible exact H2_) | with_reducible exact H | (rw [hy341]; exact H) | exact H
            have Ny341 := Aside0.mk hy341
            clear hy341
            obtain ⟨y344, hy344⟩ : ∃ y_ : List (S23), y_ = (([(⟨wrap64 (x19_1 + 1), t328, t329⟩ : S23)] : List (S23))) := ⟨_, rfl⟩
            replace H : (if x8_1.length + y344.length < 5864062014805 then (cohousinglaw22_dealt.l0 k2 l0 a1 y341 (x8_1 ++ y344) l0 (l0.length : Int) (wrap64 (x19_1 + 1))) else (none)) = some (r1, r2, r3) := by first | (rw [hy344]; with_reducible exact H) | (have H2_ := (Option.bind_some _ _).symm.trans H; rw [hy344]; with_reducible exact H2_) | (have H2_ := (Option.bind_some _ _).symm.trans H; with_reducible exact H2_) | with_reducible exact H | (rw [hy344]; exact H) | exact H
            have Ny344 := Aside0.mk hy344
            clear hy344
            by_cases c30 : x8_1.length + y344.length < 5864062014805
            ·
             rw [if_pos c30] at H
             have LMc30 := Aside0.mk c30
             clear c30
             obtain ⟨y347, hy347⟩ : ∃ y_ : List (S23), y_ = (x8_1 ++ y344) := ⟨_, rfl⟩
             replace H : (cohousinglaw22_dealt.l0 k2 l0 a1 y341 y347 l0 (l0.length : Int) (wrap64 (x19_1 + 1))) = some (r1, r2, r3) := by first | (rw [hy347]; with_reducible exact H) | (have H2_ := (Option.bind_some _ _).symm.trans H; rw [hy347]; with_reducible exact H2_) | (have H2_ := (Option.bind_some _ _).symm.trans H; with_reducible exact H2_) | with_reducible exact H | (rw [hy347]; exact H) | exact H
             have Ny347 := Aside0.mk hy347
             clear hy347
             have H' := Aside0.mk H
             clear H
             try go_wp2
             have n0_ := Aside0.mk (Kd.N_drew HO_7.out)
             have n1_ := Aside0.mk (Kd.R_drew HO_8.out)
             have n2_ := Aside0.mk (Kd.R_drew HO_11.out)
             have n3_ := Aside0.mk (blk_drew BK313.out)
             have n4_ := Aside0.mk (below_drew1 HB.out)
             clear HO_7
             clear HO_8
             clear HO_11
             clear BK313
             clear HB
             have HO_7 := n0_
             have HO_8 := n1_
             have HO_11 := n2_
             have BK313 := n3_
             have HB := n4_
             clear n0_ n1_ n2_ n3_ n4_
             refine start_ (n := 11) (S := fun w' => w'.cell? ⟨gb313, 0, none⟩ = some (.int .u32 ((rd_T58 l0 x19_1).f0)) ∧ w'.cell? ⟨gb313, 1, none⟩ = some (.int .u32 ((rd_T58 l0 x19_1).f1)) ∧ w'.cell? ⟨gb313, 2, none⟩ = some (.slice A312_2 ((rd_T58 l0 x19_1).f2).length c312_2) ∧ w'.cell? ⟨gb313, 3, none⟩ = some (.bool ((rd_T58 l0 x19_1).f3)) ∧ w'.cell? ⟨gb313, 4, none⟩ = some (.int .i64 ((rd_T58 l0 x19_1).f4)) ∧ w'.cell? ⟨gb313, 5, none⟩ = some (.int .i64 ((rd_T58 l0 x19_1).f5)) ∧ w'.cell? ⟨gb313, 6, none⟩ = some (.int .i64 ((rd_T58 l0 x19_1).f6))) (ds := []) #[false, false, false, false, false, false, false, false, false, false, false] (by kernel_rfl) rfl rfl ⟨(blk_cell BK313.out 0).trans rfl, (blk_cell BK313.out 1).trans rfl, (blk_cell BK313.out 2).trans rfl, (blk_cell BK313.out 3).trans rfl, (blk_cell BK313.out 4).trans rfl, (blk_cell BK313.out 5).trans rfl, (blk_cell BK313.out 6).trans rfl⟩ (fun hHeld => ?_); refine with_tabW cohousinglaw22_dealt.tab14 cohousinglaw22_dealt.bits14 (fun HT_ HW_ => ?_)
             generalize wr.drew = w31 at HO_7 HO_8 HO_11 BK313 HB hHeld ⊢
             refine pure_ (i := 0) (N := some 45) (v := ?_) (a' := ?_) #[true, false, false, false, false, false, false, false, false, false, false] rfl rfl (any_of HT_.out (by kernel_rfl)) (fun _ _ _ h => h) (Or.inl ⟨by rfl, ?_⟩) ?_ ?_
             rotate_left
             ·
              intro w'
              go_simp
              with_reducible rfl
             rotate_left
             ·
              simp only [Act.put, List.setIfInBounds_toArray, List.set_cons_zero, List.set_cons_succ, i64_w, i32_w]
              rfl
             refine pure_ (i := 1) (N := some 46) (v := ?_) (a' := ?_) #[true, true, false, false, false, false, false, false, false, false, false] rfl rfl (any_of HT_.out (by kernel_rfl)) (fun _ _ _ h => h) (Or.inl ⟨by rfl, ?_⟩) ?_ ?_
             rotate_left
             ·
              intro w'
              go_simp
              with_reducible rfl
             rotate_left
             ·
              simp only [Act.put, List.setIfInBounds_toArray, List.set_cons_zero, List.set_cons_succ, i64_w, i32_w]
              rfl
             refine pure_ (i := 2) (N := some 47) (v := ?_) (a' := ?_) #[true, true, true, false, false, false, false, false, false, false, false] rfl rfl (any_of HT_.out (by kernel_rfl)) (fun _ _ _ h => h) (Or.inl ⟨by rfl, ?_⟩) ?_ ?_
             rotate_left
             ·
              intro w'
              go_simp
              with_reducible rfl
             rotate_left
             ·
              simp only [Act.put, List.setIfInBounds_toArray, List.set_cons_zero, List.set_cons_succ, i64_w, i32_w]
              rfl
             refine pure_ (i := 5) (N := some 50) (v := ?_) (a' := ?_) #[true, true, true, false, false, true, false, false, false, false, false] rfl rfl (any_of HT_.out (by kernel_rfl)) (fun _ _ _ h => h) (Or.inl ⟨by rfl, ?_⟩) ?_ ?_
             rotate_left
             ·
              intro w'
              go_simp
              with_reducible rfl
             rotate_left
             ·
              simp only [Act.put, List.setIfInBounds_toArray, List.set_cons_zero, List.set_cons_succ, i64_w, i32_w]
              rfl
             refine take_ (i := 3) (N := some 48) (v := ?_) (a' := ?_) #[true, true, true, true, false, true, false, false, false, false, false] rfl rfl (take_ofW HT_.out HW_.out (by kernel_rfl)) (fun _ _ _ h => h) (Or.inl ⟨by rfl, ?_⟩) hHeld ?_ ?_
             rotate_left
             ·
              rintro w' ⟨s0, s1, s2, s3, s4, s5, s6⟩
              go_simp
              with_reducible rfl
             rotate_left
             ·
              simp only [Act.put, List.setIfInBounds_toArray, List.set_cons_zero, List.set_cons_succ, i64_w, i32_w]
              rfl
             refine take_ (i := 6) (N := some 51) (v := ?_) (a' := ?_) #[true, true, true, true, false, true, true, false, false, false, false] rfl rfl (take_ofW HT_.out HW_.out (by kernel_rfl)) (fun _ _ _ h => h) (Or.inl ⟨by rfl, ?_⟩) hHeld ?_ ?_
             rotate_left
             ·
              rintro w' ⟨s0, s1, s2, s3, s4, s5, s6⟩
              go_simp
              with_reducible rfl
             rotate_left
             ·
              simp only [Act.put, List.setIfInBounds_toArray, List.set_cons_zero, List.set_cons_succ, i64_w, i32_w]
              rfl
             refine join_ (σ := Nat) 1 #[true, true, true, true, true, true, true, true, true, true, false] (fun s_ => [(49, .int .i64 t328), (52, .int .i64 t329), (14, .pointer (some ⟨s_, 0, none⟩)), (53, .agg #[.int .i64 (wrap64 (x19_1 + 1)), .int .i64 t328, .int .i64 t329])]) (fun s_ w' => (w'.cell? ⟨gb313, 0, none⟩ = some (.int .u32 ((rd_T58 l0 x19_1).f0)) ∧ w'.cell? ⟨gb313, 1, none⟩ = some (.int .u32 ((rd_T58 l0 x19_1).f1)) ∧ w'.cell? ⟨gb313, 2, none⟩ = some (.slice A312_2 ((rd_T58 l0 x19_1).f2).length c312_2) ∧ w'.cell? ⟨gb313, 3, none⟩ = some (.bool ((rd_T58 l0 x19_1).f3)) ∧ w'.cell? ⟨gb313, 4, none⟩ = some (.int .i64 ((rd_T58 l0 x19_1).f4)) ∧ w'.cell? ⟨gb313, 5, none⟩ = some (.int .i64 ((rd_T58 l0 x19_1).f5)) ∧ w'.cell? ⟨gb313, 6, none⟩ = some (.int .i64 ((rd_T58 l0 x19_1).f6))) ∧ (Kd.R (Kd.int .i64) 3 w' w.heap.size (fun k_ => (w.heap.size ≤ k_)) u11 x11_2) ∧ (Kd.N k31 31 w' w.heap.size (fun k_ => (w.heap.size ≤ k_) ∧ some k_ ≠ (u11 : Value).ownBlock ∧ some k_ ≠ (u8 : Value).ownBlock ∧ k_ ≠ gb313 ∧ k_ ≠ s_) u7 x7_1) ∧ (Kd.R k23 23 w' w.heap.size (fun k_ => (w.heap.size ≤ k_) ∧ k_ ≠ s_) u8 x8_1) ∧ (w'.heap[gb313]? = some (.cells #[.int .u32 ((rd_T58 l0 x19_1).f0), .int .u32 ((rd_T58 l0 x19_1).f1), .slice A312_2 ((rd_T58 l0 x19_1).f2).length c312_2, .bool ((rd_T58 l0 x19_1).f3), .int .i64 ((rd_T58 l0 x19_1).f4), .int .i64 ((rd_T58 l0 x19_1).f5), .int .i64 ((rd_T58 l0 x19_1).f6)] 58 (0, 0))) ∧ (w'.heap[s_]? = some (.cells #[.int .i64 0, .int .i64 0, .int .i64 0] 23 (0, 0))) ∧ (w.heap.size ≤ s_) ∧ (w.heap.size ≤ s_) ∧ (gb313 ≠ s_) ∧ (s_ ≠ gb313) ∧ (Below w.heap.size w w')) ?_ ?_
             rotate_left
             ·
              intro hCont
              refine two_ (i := 4) (j := 9) (Ni := some 49) (Nj := some 14) #[true, true, true, true, true, true, true, false, false, false, false] #[true, true, true, true, false, true, true, false, false, true, false] rfl rfl rfl rfl (two_of HT_.out (by kernel_rfl)) (by decide) (by decide) (fun K hK => ?_) (fun K hK => ?_)
              ·
               skip
               refine goes_ Tryd.func47 (by kernel_rfl) rfl #[.int .u32 ((rd_T58 l0 x19_1).f0)] (by rfl) rfl rfl (by (try simp only [List.map_toArray, List.map_cons, List.map_nil]); first | done | rfl | (simp only [List.length_drop, List.length_take]; rfl)) ?_
               with_reducible refine (cohousinglaw22_residue.calls ((rd_T58 l0 x19_1).f0) t328 _ A24.out).mono ?_
               rintro e w' ⟨rfl, ⟨nd, rfl⟩⟩
               refine ⟨_, rfl, ?_⟩
               refine hK.out _ _ ⟨(blk_cell BK313.out 0).trans rfl, (blk_cell BK313.out 1).trans rfl, (blk_cell BK313.out 2).trans rfl, (blk_cell BK313.out 3).trans rfl, (blk_cell BK313.out 4).trans rfl, (blk_cell BK313.out 5).trans rfl, (blk_cell BK313.out 6).trans rfl⟩ (fun hHeld => ?_)
               clear hK K
               refine norm_ (a' := ?_) ?_ ?_
               rotate_left
               ·
                show Act.put _ (some 49) _ = _
                simp only [Act.put, List.setIfInBounds_toArray, List.set_cons_zero, List.set_cons_succ, i64_w, i32_w]
                rfl
               refine two_ (i := 7) (j := 9) (Ni := some 52) (Nj := some 14) #[true, true, true, true, true, true, true, true, false, false, false] #[true, true, true, true, true, true, true, false, false, true, false] rfl rfl rfl rfl (two_of HT_.out (by kernel_rfl)) (by decide) (by decide) (fun K hK => ?_) (fun K hK => ?_)
               ·
                skip
                refine goes_ Tryd.func47 (by kernel_rfl) rfl #[.int .u32 ((rd_T58 l0 x19_1).f1)] (by rfl) rfl rfl (by (try simp only [List.map_toArray, List.map_cons, List.map_nil]); first | done | rfl | (simp only [List.length_drop, List.length_take]; rfl)) ?_
                with_reducible refine (cohousinglaw22_residue.calls ((rd_T58 l0 x19_1).f1) t329 _ A25.out).mono ?_
                rintro e w' ⟨rfl, ⟨nd, rfl⟩⟩
                refine ⟨_, rfl, ?_⟩
                refine hK.out _ _ ⟨(blk_cell BK313.out 0).trans rfl, (blk_cell BK313.out 1).trans rfl, (blk_cell BK313.out 2).trans rfl, (blk_cell BK313.out 3).trans rfl, (blk_cell BK313.out 4).trans rfl, (blk_cell BK313.out 5).trans rfl, (blk_cell BK313.out 6).trans rfl⟩ (fun hHeld => ?_)
                clear hK K
                refine norm_ (a' := ?_) ?_ ?_
                rotate_left
                ·
                 show Act.put _ (some 52) _ = _
                 simp only [Act.put, List.setIfInBounds_toArray, List.set_cons_zero, List.set_cons_succ, i64_w, i32_w]
                 rfl
                refine pure_ (i := 8) (N := some 53) (v := ?_) (a' := ?_) #[true, true, true, true, true, true, true, true, true, false, false] rfl rfl (any_of HT_.out (by kernel_rfl)) (fun _ _ _ h => h) (Or.inl ⟨by rfl, ?_⟩) ?_ ?_
                rotate_left
                ·
                 intro w'
                 go_simp
                 with_reducible rfl
                rotate_left
                ·
                 simp only [Act.put, List.setIfInBounds_toArray, List.set_cons_zero, List.set_cons_succ, i64_w, i32_w]
                 rfl
                refine one_ (i := 9) (N := some 14) #[true, true, true, true, true, true, true, true, true, true, false] rfl rfl (one_of HT_.out (by kernel_rfl)) (by decide) (fun K hK => ?_)
                refine box_step ?hg (N := 14) ?hd (cs := #[.int .i64 0, .int .i64 0, .int .i64 0]) (t := 23) ?hr ?_; (case hd => rfl); (case hg => rfl); (case hr => first | (go_simp; done) | (go_simp; rfl))
                intro gb330 hg w32 hbox hb
                have n0_ := Aside0.mk (Kd.N_below (Kd.N_elderB (by (with_reducible repeat (first | apply Kd.N_alloc | apply Kd.N_drewN | apply Kd.N_drew)); exact HO_7.out) gb330 (Nat.le_of_eq hg.symm)) hb)
                have n1_ := Aside0.mk (Kd.R_below (Kd.R_elderB (by (with_reducible repeat (first | apply Kd.R_alloc | apply Kd.R_drewN | apply Kd.R_drew)); exact HO_8.out) gb330 (Nat.le_of_eq hg.symm)) hb)
                have n2_ := Aside0.mk (Kd.R_below (by (with_reducible repeat (first | apply Kd.R_alloc | apply Kd.R_drewN | apply Kd.R_drew)); exact HO_11.out) hb)
                have n3_ := Aside0.mk (blk_below (g := gb313) (o := .cells #[.int .u32 ((rd_T58 l0 x19_1).f0), .int .u32 ((rd_T58 l0 x19_1).f1), .slice A312_2 ((rd_T58 l0 x19_1).f2).length c312_2, .bool ((rd_T58 l0 x19_1).f3), .int .i64 ((rd_T58 l0 x19_1).f4), .int .i64 ((rd_T58 l0 x19_1).f5), .int .i64 ((rd_T58 l0 x19_1).f6)] 58 (0, 0)) (by (with_reducible repeat (first | refine blk_drewN ?_ _ | refine blk_drew ?_ | refine blk_alloc ?_ _)); exact BK313.out) hb)
                have n4_ := Aside0.mk (below_step (by repeat (first | (with_reducible first | exact HB.out | apply below_alloc | apply pw_below_drewN | apply below_drew1 | refine below_set ?_ GE313.out) | exact HB.out)) hb)
                have n5_ := Aside0.mk (hbox)
                have n6_ := Aside0.mk ((by rw [hg]; exact (below_size (by repeat (first | (with_reducible first | exact HB.out | apply below_alloc | apply pw_below_drewN | apply below_drew1 | refine below_set ?_ GE313.out) | exact HB.out))) : w.heap.size ≤ gb330))
                have n7_ := Aside0.mk ((by rw [hg]; exact (below_size (by repeat (first | (with_reducible first | exact HB.out | apply below_alloc | apply pw_below_drewN | apply below_drew1 | refine below_set ?_ GE313.out) | exact HB.out))) : w.heap.size ≤ gb330))
                have n8_ := Aside0.mk ((by rw [hg]; exact Nat.ne_of_lt (blk_lt (g := gb313) (o := .cells #[.int .u32 ((rd_T58 l0 x19_1).f0), .int .u32 ((rd_T58 l0 x19_1).f1), .slice A312_2 ((rd_T58 l0 x19_1).f2).length c312_2, .bool ((rd_T58 l0 x19_1).f3), .int .i64 ((rd_T58 l0 x19_1).f4), .int .i64 ((rd_T58 l0 x19_1).f5), .int .i64 ((rd_T58 l0 x19_1).f6)] 58 (0, 0)) (by (with_reducible repeat (first | refine blk_drewN ?_ _ | refine blk_drew ?_ | refine blk_alloc ?_ _)); exact BK313.out)) : gb313 ≠ gb330))
                have n9_ := Aside0.mk ((by rw [hg]; exact Nat.ne_of_gt (blk_lt (g := gb313) (o := .cells #[.int .u32 ((rd_T58 l0 x19_1).f0), .int .u32 ((rd_T58 l0 x19_1).f1), .slice A312_2 ((rd_T58 l0 x19_1).f2).length c312_2, .bool ((rd_T58 l0 x19_1).f3), .int .i64 ((rd_T58 l0 x19_1).f4), .int .i64 ((rd_T58 l0 x19_1).f5), .int .i64 ((rd_T58 l0 x19_1).f6)] 58 (0, 0)) (by (with_reducible repeat (first | refine blk_drewN ?_ _ | refine blk_drew ?_ | refine blk_alloc ?_ _)); exact BK313.out)) : gb330 ≠ gb313))
                clear HO_7
                clear HO_8
                clear HO_11
                clear BK313
                clear HB
                have HO_7 := n0_
                have HO_8 := n1_
                have HO_11 := n2_
                have BK313 := n3_
                have HB := n4_
                have BK330 := n5_
                have GW330 := n6_
                have GE330 := n7_
                have NB313_330 := n8_
                have NB330_313 := n9_
                clear n0_ n1_ n2_ n3_ n4_ n5_ n6_ n7_ n8_ n9_
                clear hb hbox hg
                refine hK.out _ _ ⟨(blk_cell BK313.out 0).trans rfl, (blk_cell BK313.out 1).trans rfl, (blk_cell BK313.out 2).trans rfl, (blk_cell BK313.out 3).trans rfl, (blk_cell BK313.out 4).trans rfl, (blk_cell BK313.out 5).trans rfl, (blk_cell BK313.out 6).trans rfl⟩ (fun hHeld => ?_)
                clear hK K
                refine norm_ (a' := ?_) ?_ ?_
                rotate_left
                ·
                 show Act.put _ (some 14) _ = _
                 simp only [Act.put, List.setIfInBounds_toArray, List.set_cons_zero, List.set_cons_succ, i64_w, i32_w]
                 rfl
                exact norm_ (by simp only [putAll, Act.put, List.setIfInBounds_toArray, List.set_cons_zero, List.set_cons_succ]) (hCont (gb330) _ ⟨hHeld, (by (with_reducible repeat (first | apply Kd.R_alloc | apply Kd.R_drewN | apply Kd.R_drew)); exact HO_11.out), (by (with_reducible repeat (first | apply Kd.N_alloc | apply Kd.N_drewN | apply Kd.N_drew)); exact Kd.N_mono HO_7.out (fun _ hk => ⟨hk.1.1, ⟨hk.1.2.2.1, ⟨hk.1.2.1, ⟨hk.1.2.2.2, hk.2⟩⟩⟩⟩)), (by (with_reducible repeat (first | apply Kd.R_alloc | apply Kd.R_drewN | apply Kd.R_drew)); exact HO_8.out), (by (with_reducible repeat (first | refine blk_drewN ?_ _ | refine blk_drew ?_ | refine blk_alloc ?_ _)); exact BK313.out), (by (with_reducible repeat (first | refine blk_drewN ?_ _ | refine blk_drew ?_ | refine blk_alloc ?_ _)); exact BK330.out), GW330.out, GE330.out, NB313_330.out, NB330_313.out, (by repeat (first | (with_reducible first | exact HB.out | apply below_alloc | apply pw_below_drewN | apply below_drew1 | refine below_set ?_ GE313.out | refine below_set ?_ GE330.out) | exact HB.out))⟩)
               ·
                skip
                refine box_step ?hg (N := 14) ?hd (cs := #[.int .i64 0, .int .i64 0, .int .i64 0]) (t := 23) ?hr ?_; (case hd => rfl); (case hg => rfl); (case hr => first | (go_simp; done) | (go_simp; rfl))
                intro gb330 hg w32 hbox hb
                have n0_ := Aside0.mk (Kd.N_below (Kd.N_elderB (by (with_reducible repeat (first | apply Kd.N_alloc | apply Kd.N_drewN | apply Kd.N_drew)); exact HO_7.out) gb330 (Nat.le_of_eq hg.symm)) hb)
                have n1_ := Aside0.mk (Kd.R_below (Kd.R_elderB (by (with_reducible repeat (first | apply Kd.R_alloc | apply Kd.R_drewN | apply Kd.R_drew)); exact HO_8.out) gb330 (Nat.le_of_eq hg.symm)) hb)
                have n2_ := Aside0.mk (Kd.R_below (by (with_reducible repeat (first | apply Kd.R_alloc | apply Kd.R_drewN | apply Kd.R_drew)); exact HO_11.out) hb)
                have n3_ := Aside0.mk (blk_below (g := gb313) (o := .cells #[.int .u32 ((rd_T58 l0 x19_1).f0), .int .u32 ((rd_T58 l0 x19_1).f1), .slice A312_2 ((rd_T58 l0 x19_1).f2).length c312_2, .bool ((rd_T58 l0 x19_1).f3), .int .i64 ((rd_T58 l0 x19_1).f4), .int .i64 ((rd_T58 l0 x19_1).f5), .int .i64 ((rd_T58 l0 x19_1).f6)] 58 (0, 0)) (by (with_reducible repeat (first | refine blk_drewN ?_ _ | refine blk_drew ?_ | refine blk_alloc ?_ _)); exact BK313.out) hb)
                have n4_ := Aside0.mk (below_step (by repeat (first | (with_reducible first | exact HB.out | apply below_alloc | apply pw_below_drewN | apply below_drew1 | refine below_set ?_ GE313.out) | exact HB.out)) hb)
                have n5_ := Aside0.mk (hbox)
                have n6_ := Aside0.mk ((by rw [hg]; exact (below_size (by repeat (first | (with_reducible first | exact HB.out | apply below_alloc | apply pw_below_drewN | apply below_drew1 | refine below_set ?_ GE313.out) | exact HB.out))) : w.heap.size ≤ gb330))
                have n7_ := Aside0.mk ((by rw [hg]; exact (below_size (by repeat (first | (with_reducible first | exact HB.out | apply below_alloc | apply pw_below_drewN | apply below_drew1 | refine below_set ?_ GE313.out) | exact HB.out))) : w.heap.size ≤ gb330))
                have n8_ := Aside0.mk ((by rw [hg]; exact Nat.ne_of_lt (blk_lt (g := gb313) (o := .cells #[.int .u32 ((rd_T58 l0 x19_1).f0), .int .u32 ((rd_T58 l0 x19_1).f1), .slice A312_2 ((rd_T58 l0 x19_1).f2).length c312_2, .bool ((rd_T58 l0 x19_1).f3), .int .i64 ((rd_T58 l0 x19_1).f4), .int .i64 ((rd_T58 l0 x19_1).f5), .int .i64 ((rd_T58 l0 x19_1).f6)] 58 (0, 0)) (by (with_reducible repeat (first | refine blk_drewN ?_ _ | refine blk_drew ?_ | refine blk_alloc ?_ _)); exact BK313.out)) : gb313 ≠ gb330))
                have n9_ := Aside0.mk ((by rw [hg]; exact Nat.ne_of_gt (blk_lt (g := gb313) (o := .cells #[.int .u32 ((rd_T58 l0 x19_1).f0), .int .u32 ((rd_T58 l0 x19_1).f1), .slice A312_2 ((rd_T58 l0 x19_1).f2).length c312_2, .bool ((rd_T58 l0 x19_1).f3), .int .i64 ((rd_T58 l0 x19_1).f4), .int .i64 ((rd_T58 l0 x19_1).f5), .int .i64 ((rd_T58 l0 x19_1).f6)] 58 (0, 0)) (by (with_reducible repeat (first | refine blk_drewN ?_ _ | refine blk_drew ?_ | refine blk_alloc ?_ _)); exact BK313.out)) : gb330 ≠ gb313))
                clear HO_7
                clear HO_8
                clear HO_11
                clear BK313
                clear HB
                have HO_7 := n0_
                have HO_8 := n1_
                have HO_11 := n2_
                have BK313 := n3_
                have HB := n4_
                have BK330 := n5_
                have GW330 := n6_
                have GE330 := n7_
                have NB313_330 := n8_
                have NB330_313 := n9_
                clear n0_ n1_ n2_ n3_ n4_ n5_ n6_ n7_ n8_ n9_
                clear hb hbox hg
                refine hK.out _ _ ⟨(blk_cell BK313.out 0).trans rfl, (blk_cell BK313.out 1).trans rfl, (blk_cell BK313.out 2).trans rfl, (blk_cell BK313.out 3).trans rfl, (blk_cell BK313.out 4).trans rfl, (blk_cell BK313.out 5).trans rfl, (blk_cell BK313.out 6).trans rfl⟩ (fun hHeld => ?_)
                clear hK K
                refine norm_ (a' := ?_) ?_ ?_
                rotate_left
                ·
                 show Act.put _ (some 14) _ = _
                 simp only [Act.put, List.setIfInBounds_toArray, List.set_cons_zero, List.set_cons_succ, i64_w, i32_w]
                 rfl
                refine one_ (i := 7) (N := some 52) #[true, true, true, true, true, true, true, true, false, true, false] rfl rfl (one_of HT_.out (by kernel_rfl)) (by decide) (fun K hK => ?_)
                refine goes_ Tryd.func47 (by kernel_rfl) rfl #[.int .u32 ((rd_T58 l0 x19_1).f1)] (by rfl) rfl rfl (by (try simp only [List.map_toArray, List.map_cons, List.map_nil]); first | done | rfl | (simp only [List.length_drop, List.length_take]; rfl)) ?_
                with_reducible refine (cohousinglaw22_residue.calls ((rd_T58 l0 x19_1).f1) t329 _ A25.out).mono ?_
                rintro e w' ⟨rfl, ⟨nd, rfl⟩⟩
                refine ⟨_, rfl, ?_⟩
                refine hK.out _ _ ⟨(blk_cell BK313.out 0).trans rfl, (blk_cell BK313.out 1).trans rfl, (blk_cell BK313.out 2).trans rfl, (blk_cell BK313.out 3).trans rfl, (blk_cell BK313.out 4).trans rfl, (blk_cell BK313.out 5).trans rfl, (blk_cell BK313.out 6).trans rfl⟩ (fun hHeld => ?_)
                clear hK K
                refine norm_ (a' := ?_) ?_ ?_
                rotate_left
                ·
                 show Act.put _ (some 52) _ = _
                 simp only [Act.put, List.setIfInBounds_toArray, List.set_cons_zero, List.set_cons_succ, i64_w, i32_w]
                 rfl
                refine pure_ (i := 8) (N := some 53) (v := ?_) (a' := ?_) #[true, true, true, true, true, true, true, true, true, true, false] rfl rfl (any_of HT_.out (by kernel_rfl)) (fun _ _ _ h => h) (Or.inl ⟨by rfl, ?_⟩) ?_ ?_
                rotate_left
                ·
                 intro w'
                 go_simp
                 with_reducible rfl
                rotate_left
                ·
                 simp only [Act.put, List.setIfInBounds_toArray, List.set_cons_zero, List.set_cons_succ, i64_w, i32_w]
                 rfl
                exact norm_ (by simp only [putAll, Act.put, List.setIfInBounds_toArray, List.set_cons_zero, List.set_cons_succ]) (hCont (gb330) _ ⟨hHeld, (by (with_reducible repeat (first | apply Kd.R_alloc | apply Kd.R_drewN | apply Kd.R_drew)); exact HO_11.out), (by (with_reducible repeat (first | apply Kd.N_alloc | apply Kd.N_drewN | apply Kd.N_drew)); exact Kd.N_mono HO_7.out (fun _ hk => ⟨hk.1.1, ⟨hk.1.2.2.1, ⟨hk.1.2.1, ⟨hk.1.2.2.2, hk.2⟩⟩⟩⟩)), (by (with_reducible repeat (first | apply Kd.R_alloc | apply Kd.R_drewN | apply Kd.R_drew)); exact HO_8.out), (by (with_reducible repeat (first | refine blk_drewN ?_ _ | refine blk_drew ?_ | refine blk_alloc ?_ _)); exact BK313.out), (by (with_reducible repeat (first | refine blk_drewN ?_ _ | refine blk_drew ?_ | refine blk_alloc ?_ _)); exact BK330.out), GW330.out, GE330.out, NB313_330.out, NB330_313.out, (by repeat (first | (with_reducible first | exact HB.out | apply below_alloc | apply pw_below_drewN | apply below_drew1 | refine below_set ?_ GE313.out | refine below_set ?_ GE330.out) | exact HB.out))⟩)
              ·
               skip
               refine box_step ?hg (N := 14) ?hd (cs := #[.int .i64 0, .int .i64 0, .int .i64 0]) (t := 23) ?hr ?_; (case hd => rfl); (case hg => rfl); (case hr => first | (go_simp; done) | (go_simp; rfl))
               intro gb330 hg w32 hbox hb
               have n0_ := Aside0.mk (Kd.N_below (Kd.N_elderB (by (with_reducible repeat (first | apply Kd.N_alloc | apply Kd.N_drewN | apply Kd.N_drew)); exact HO_7.out) gb330 (Nat.le_of_eq hg.symm)) hb)
               have n1_ := Aside0.mk (Kd.R_below (Kd.R_elderB (by (with_reducible repeat (first | apply Kd.R_alloc | apply Kd.R_drewN | apply Kd.R_drew)); exact HO_8.out) gb330 (Nat.le_of_eq hg.symm)) hb)
               have n2_ := Aside0.mk (Kd.R_below (by (with_reducible repeat (first | apply Kd.R_alloc | apply Kd.R_drewN | apply Kd.R_drew)); exact HO_11.out) hb)
               have n3_ := Aside0.mk (blk_below (g := gb313) (o := .cells #[.int .u32 ((rd_T58 l0 x19_1).f0), .int .u32 ((rd_T58 l0 x19_1).f1), .slice A312_2 ((rd_T58 l0 x19_1).f2).length c312_2, .bool ((rd_T58 l0 x19_1).f3), .int .i64 ((rd_T58 l0 x19_1).f4), .int .i64 ((rd_T58 l0 x19_1).f5), .int .i64 ((rd_T58 l0 x19_1).f6)] 58 (0, 0)) (by (with_reducible repeat (first | refine blk_drewN ?_ _ | refine blk_drew ?_ | refine blk_alloc ?_ _)); exact BK313.out) hb)
               have n4_ := Aside0.mk (below_step (by repeat (first | (with_reducible first | exact HB.out | apply below_alloc | apply pw_below_drewN | apply below_drew1 | refine below_set ?_ GE313.out) | exact HB.out)) hb)
               have n5_ := Aside0.mk (hbox)
               have n6_ := Aside0.mk ((by rw [hg]; exact (below_size (by repeat (first | (with_reducible first | exact HB.out | apply below_alloc | apply pw_below_drewN | apply below_drew1 | refine below_set ?_ GE313.out) | exact HB.out))) : w.heap.size ≤ gb330))
               have n7_ := Aside0.mk ((by rw [hg]; exact (below_size (by repeat (first | (with_reducible first | exact HB.out | apply below_alloc | apply pw_below_drewN | apply below_drew1 | refine below_set ?_ GE313.out) | exact HB.out))) : w.heap.size ≤ gb330))
               have n8_ := Aside0.mk ((by rw [hg]; exact Nat.ne_of_lt (blk_lt (g := gb313) (o := .cells #[.int .u32 ((rd_T58 l0 x19_1).f0), .int .u32 ((rd_T58 l0 x19_1).f1), .slice A312_2 ((rd_T58 l0 x19_1).f2).length c312_2, .bool ((rd_T58 l0 x19_1).f3), .int .i64 ((rd_T58 l0 x19_1).f4), .int .i64 ((rd_T58 l0 x19_1).f5), .int .i64 ((rd_T58 l0 x19_1).f6)] 58 (0, 0)) (by (with_reducible repeat (first | refine blk_drewN ?_ _ | refine blk_drew ?_ | refine blk_alloc ?_ _)); exact BK313.out)) : gb313 ≠ gb330))
               have n9_ := Aside0.mk ((by rw [hg]; exact Nat.ne_of_gt (blk_lt (g := gb313) (o := .cells #[.int .u32 ((rd_T58 l0 x19_1).f0), .int .u32 ((rd_T58 l0 x19_1).f1), .slice A312_2 ((rd_T58 l0 x19_1).f2).length c312_2, .bool ((rd_T58 l0 x19_1).f3), .int .i64 ((rd_T58 l0 x19_1).f4), .int .i64 ((rd_T58 l0 x19_1).f5), .int .i64 ((rd_T58 l0 x19_1).f6)] 58 (0, 0)) (by (with_reducible repeat (first | refine blk_drewN ?_ _ | refine blk_drew ?_ | refine blk_alloc ?_ _)); exact BK313.out)) : gb330 ≠ gb313))
               clear HO_7
               clear HO_8
               clear HO_11
               clear BK313
               clear HB
               have HO_7 := n0_
               have HO_8 := n1_
               have HO_11 := n2_
               have BK313 := n3_
               have HB := n4_
               have BK330 := n5_
               have GW330 := n6_
               have GE330 := n7_
               have NB313_330 := n8_
               have NB330_313 := n9_
               clear n0_ n1_ n2_ n3_ n4_ n5_ n6_ n7_ n8_ n9_
               clear hb hbox hg
               refine hK.out _ _ ⟨(blk_cell BK313.out 0).trans rfl, (blk_cell BK313.out 1).trans rfl, (blk_cell BK313.out 2).trans rfl, (blk_cell BK313.out 3).trans rfl, (blk_cell BK313.out 4).trans rfl, (blk_cell BK313.out 5).trans rfl, (blk_cell BK313.out 6).trans rfl⟩ (fun hHeld => ?_)
               clear hK K
               refine norm_ (a' := ?_) ?_ ?_
               rotate_left
               ·
                show Act.put _ (some 14) _ = _
                simp only [Act.put, List.setIfInBounds_toArray, List.set_cons_zero, List.set_cons_succ, i64_w, i32_w]
                rfl
               refine one_ (i := 4) (N := some 49) #[true, true, true, true, true, true, true, false, false, true, false] rfl rfl (one_of HT_.out (by kernel_rfl)) (by decide) (fun K hK => ?_)
               refine goes_ Tryd.func47 (by kernel_rfl) rfl #[.int .u32 ((rd_T58 l0 x19_1).f0)] (by rfl) rfl rfl (by (try simp only [List.map_toArray, List.map_cons, List.map_nil]); first | done | rfl | (simp only [List.length_drop, List.length_take]; rfl)) ?_
               with_reducible refine (cohousinglaw22_residue.calls ((rd_T58 l0 x19_1).f0) t328 _ A24.out).mono ?_
               rintro e w' ⟨rfl, ⟨nd, rfl⟩⟩
               refine ⟨_, rfl, ?_⟩
               refine hK.out _ _ ⟨(blk_cell BK313.out 0).trans rfl, (blk_cell BK313.out 1).trans rfl, (blk_cell BK313.out 2).trans rfl, (blk_cell BK313.out 3).trans rfl, (blk_cell BK313.out 4).trans rfl, (blk_cell BK313.out 5).trans rfl, (blk_cell BK313.out 6).trans rfl⟩ (fun hHeld => ?_)
               clear hK K
               refine norm_ (a' := ?_) ?_ ?_
               rotate_left
               ·
                show Act.put _ (some 49) _ = _
                simp only [Act.put, List.setIfInBounds_toArray, List.set_cons_zero, List.set_cons_succ, i64_w, i32_w]
                rfl
               refine one_ (i := 7) (N := some 52) #[true, true, true, true, true, true, true, true, false, true, false] rfl rfl (one_of HT_.out (by kernel_rfl)) (by decide) (fun K hK => ?_)
               refine goes_ Tryd.func47 (by kernel_rfl) rfl #[.int .u32 ((rd_T58 l0 x19_1).f1)] (by rfl) rfl rfl (by (try simp only [List.map_toArray, List.map_cons, List.map_nil]); first | done | rfl | (simp only [List.length_drop, List.length_take]; rfl)) ?_
               with_reducible refine (cohousinglaw22_residue.calls ((rd_T58 l0 x19_1).f1) t329 _ A25.out).mono ?_
               rintro e w' ⟨rfl, ⟨nd, rfl⟩⟩
               refine ⟨_, rfl, ?_⟩
               refine hK.out _ _ ⟨(blk_cell BK313.out 0).trans rfl, (blk_cell BK313.out 1).trans rfl, (blk_cell BK313.out 2).trans rfl, (blk_cell BK313.out 3).trans rfl, (blk_cell BK313.out 4).trans rfl, (blk_cell BK313.out 5).trans rfl, (blk_cell BK313.out 6).trans rfl⟩ (fun hHeld => ?_)
               clear hK K
               refine norm_ (a' := ?_) ?_ ?_
               rotate_left
               ·
                show Act.put _ (some 52) _ = _
                simp only [Act.put, List.setIfInBounds_toArray, List.set_cons_zero, List.set_cons_succ, i64_w, i32_w]
                rfl
               refine pure_ (i := 8) (N := some 53) (v := ?_) (a' := ?_) #[true, true, true, true, true, true, true, true, true, true, false] rfl rfl (any_of HT_.out (by kernel_rfl)) (fun _ _ _ h => h) (Or.inl ⟨by rfl, ?_⟩) ?_ ?_
               rotate_left
               ·
                intro w'
                go_simp
                with_reducible rfl
               rotate_left
               ·
                simp only [Act.put, List.setIfInBounds_toArray, List.set_cons_zero, List.set_cons_succ, i64_w, i32_w]
                rfl
               exact norm_ (by simp only [putAll, Act.put, List.setIfInBounds_toArray, List.set_cons_zero, List.set_cons_succ]) (hCont (gb330) _ ⟨hHeld, (by (with_reducible repeat (first | apply Kd.R_alloc | apply Kd.R_drewN | apply Kd.R_drew)); exact HO_11.out), (by (with_reducible repeat (first | apply Kd.N_alloc | apply Kd.N_drewN | apply Kd.N_drew)); exact Kd.N_mono HO_7.out (fun _ hk => ⟨hk.1.1, ⟨hk.1.2.2.1, ⟨hk.1.2.1, ⟨hk.1.2.2.2, hk.2⟩⟩⟩⟩)), (by (with_reducible repeat (first | apply Kd.R_alloc | apply Kd.R_drewN | apply Kd.R_drew)); exact HO_8.out), (by (with_reducible repeat (first | refine blk_drewN ?_ _ | refine blk_drew ?_ | refine blk_alloc ?_ _)); exact BK313.out), (by (with_reducible repeat (first | refine blk_drewN ?_ _ | refine blk_drew ?_ | refine blk_alloc ?_ _)); exact BK330.out), GW330.out, GE330.out, NB313_330.out, NB330_313.out, (by repeat (first | (with_reducible first | exact HB.out | apply below_alloc | apply pw_below_drewN | apply below_drew1 | refine below_set ?_ GE313.out | refine below_set ?_ GE330.out) | exact HB.out))⟩)
             rintro gb330 w33 ⟨hS_, h0_, h1_, h2_, h3_, h4_, h5_, h6_, h7_, h8_, h9_⟩
             have n0_ : Aside0 (Kd.R (Kd.int .i64) 3 w33 w.heap.size (fun k_ => (w.heap.size ≤ k_)) u11 x11_2) := ⟨h0_⟩
             have n1_ : Aside0 (Kd.N k31 31 w33 w.heap.size (fun k_ => (w.heap.size ≤ k_) ∧ some k_ ≠ (u11 : Value).ownBlock ∧ some k_ ≠ (u8 : Value).ownBlock ∧ k_ ≠ gb313 ∧ k_ ≠ gb330) u7 x7_1) := ⟨h1_⟩
             have n2_ : Aside0 (Kd.R k23 23 w33 w.heap.size (fun k_ => (w.heap.size ≤ k_) ∧ k_ ≠ gb330) u8 x8_1) := ⟨h2_⟩
             have n3_ : Aside0 (w33.heap[gb313]? = some (.cells #[.int .u32 ((rd_T58 l0 x19_1).f0), .int .u32 ((rd_T58 l0 x19_1).f1), .slice A312_2 ((rd_T58 l0 x19_1).f2).length c312_2, .bool ((rd_T58 l0 x19_1).f3), .int .i64 ((rd_T58 l0 x19_1).f4), .int .i64 ((rd_T58 l0 x19_1).f5), .int .i64 ((rd_T58 l0 x19_1).f6)] 58 (0, 0))) := ⟨h3_⟩
             have n4_ : Aside0 (w33.heap[gb330]? = some (.cells #[.int .i64 0, .int .i64 0, .int .i64 0] 23 (0, 0))) := ⟨h4_⟩
             have n5_ : Aside0 (w.heap.size ≤ gb330) := ⟨h5_⟩
             have n6_ : Aside0 (w.heap.size ≤ gb330) := ⟨h6_⟩
             have n7_ : Aside0 (gb313 ≠ gb330) := ⟨h7_⟩
             have n8_ : Aside0 (gb330 ≠ gb313) := ⟨h8_⟩
             have n9_ : Aside0 (Below w.heap.size w w33) := ⟨h9_⟩
             clear HO_7
             clear HO_8
             clear HO_11
             clear BK313
             clear HB
             clear h0_ h1_ h2_ h3_ h4_ h5_ h6_ h7_ h8_ h9_
             have HO_11 := n0_
             have HO_7 := n1_
             have HO_8 := n2_
             have BK313 := n3_
             have BK330 := n4_
             have GW330 := n5_
             have GE330 := n6_
             have NB313_330 := n7_
             have NB330_313 := n8_
             have HB := n9_
             clear n0_ n1_ n2_ n3_ n4_ n5_ n6_ n7_ n8_ n9_
             have hHeld : w33.cell? ⟨gb313, 0, none⟩ = some (.int .u32 ((rd_T58 l0 x19_1).f0)) ∧ w33.cell? ⟨gb313, 1, none⟩ = some (.int .u32 ((rd_T58 l0 x19_1).f1)) ∧ w33.cell? ⟨gb313, 2, none⟩ = some (.slice A312_2 ((rd_T58 l0 x19_1).f2).length c312_2) ∧ w33.cell? ⟨gb313, 3, none⟩ = some (.bool ((rd_T58 l0 x19_1).f3)) ∧ w33.cell? ⟨gb313, 4, none⟩ = some (.int .i64 ((rd_T58 l0 x19_1).f4)) ∧ w33.cell? ⟨gb313, 5, none⟩ = some (.int .i64 ((rd_T58 l0 x19_1).f5)) ∧ w33.cell? ⟨gb313, 6, none⟩ = some (.int .i64 ((rd_T58 l0 x19_1).f6)) := hS_
             refine norm_ (a' := ?_) ?_ ?_
             rotate_left
             ·
              simp only [putAll, Act.put, List.setIfInBounds_toArray, List.set_cons_zero, List.set_cons_succ]
              rfl
             refine one_ (i := 10) (N := none) #[true, true, true, true, true, true, true, true, true, true, true] rfl rfl (one_of HT_.out (by kernel_rfl)) (by decide) (fun K hK => ?_)
             have hs34 : w33.cell? ⟨gb330, 0, none⟩ = some (.int .i64 0) := (blk_cell BK330.out 0).trans rfl
             have hfs34 := blk_frozen BK330.out 0
             have hns34_0 := NB313_330.out
             have hms34_0 := NB330_313.out
             have hs35 : w33.cell? ⟨gb330, 1, none⟩ = some (.int .i64 0) := (blk_cell BK330.out 1).trans rfl
             have hfs35 := blk_frozen BK330.out 1
             have hns35_0 := NB313_330.out
             have hms35_0 := NB330_313.out
             have hs36 : w33.cell? ⟨gb330, 2, none⟩ = some (.int .i64 0) := (blk_cell BK330.out 2).trans rfl
             have hfs36 := blk_frozen BK330.out 2
             have hns36_0 := NB313_330.out
             have hms36_0 := NB330_313.out
             refine skip_ (w1 := ?_) (by rfl) rfl ?_ ?_
             rotate_left
             ·
              go_simp
              rfl
             refine hK.out _ _ ⟨((cell_far (p := ⟨gb330, _, none⟩) NB313_330.out _).trans (((cell_far (p := ⟨gb330, _, none⟩) NB313_330.out _).trans (((cell_far (p := ⟨gb330, _, none⟩) NB313_330.out _).trans (hHeld.1)))))), ((cell_far (p := ⟨gb330, _, none⟩) NB313_330.out _).trans (((cell_far (p := ⟨gb330, _, none⟩) NB313_330.out _).trans (((cell_far (p := ⟨gb330, _, none⟩) NB313_330.out _).trans (hHeld.2.1)))))), ((cell_far (p := ⟨gb330, _, none⟩) NB313_330.out _).trans (((cell_far (p := ⟨gb330, _, none⟩) NB313_330.out _).trans (((cell_far (p := ⟨gb330, _, none⟩) NB313_330.out _).trans (hHeld.2.2.1)))))), ((cell_far (p := ⟨gb330, _, none⟩) NB313_330.out _).trans (((cell_far (p := ⟨gb330, _, none⟩) NB313_330.out _).trans (((cell_far (p := ⟨gb330, _, none⟩) NB313_330.out _).trans (hHeld.2.2.2.1)))))), ((cell_far (p := ⟨gb330, _, none⟩) NB313_330.out _).trans (((cell_far (p := ⟨gb330, _, none⟩) NB313_330.out _).trans (((cell_far (p := ⟨gb330, _, none⟩) NB313_330.out _).trans (hHeld.2.2.2.2.1)))))), ((cell_far (p := ⟨gb330, _, none⟩) NB313_330.out _).trans (((cell_far (p := ⟨gb330, _, none⟩) NB313_330.out _).trans (((cell_far (p := ⟨gb330, _, none⟩) NB313_330.out _).trans (hHeld.2.2.2.2.2.1)))))), ((cell_far (p := ⟨gb330, _, none⟩) NB313_330.out _).trans (((cell_far (p := ⟨gb330, _, none⟩) NB313_330.out _).trans (((cell_far (p := ⟨gb330, _, none⟩) NB313_330.out _).trans (hHeld.2.2.2.2.2.2))))))⟩ (fun hHeld => ?_)
             clear hK K
             refine done_ (done_of HT_.out (by kernel_rfl)) ?_
             have hnb37 := NB330_313.out
             have hnc37 := NB313_330.out
             have hcz38_0 : w33.cell? ⟨gb330, 0, none⟩ = some (.int .i64 0) := (blk_cell BK330.out 0).trans rfl
             have hcz38_1 : w33.cell? ⟨gb330, 1, none⟩ = some (.int .i64 0) := (blk_cell BK330.out 1).trans rfl
             have hcz38_2 : w33.cell? ⟨gb330, 2, none⟩ = some (.int .i64 0) := (blk_cell BK330.out 2).trans rfl
             have hfz38_0 := blk_frozen BK330.out 0
             have hfz38_1 := blk_frozen BK330.out 1
             have hfz38_2 := blk_frozen BK330.out 2
             obtain ⟨Ao39, co39, eo39⟩ := Kd.R_slice HO_11.out
             subst eo39
             try go_wp2_with (first | ((with_reducible refine gate_callee (f := 11) rfl ?_); refine goesL_ (some 59) rfl rfl Tryd.func11 (by kernel_rfl) rfl #[.agg #[.int .i64 (wrap64 (x19_1 + 1)), .int .i64 t328, .int .i64 t329], .slice Ao39 x11_2.length co39, .int .i64 (l0.length : Int)] rfl (by (try simp only [List.map_toArray, List.map_cons, List.map_nil]); first | done | rfl | (simp only [List.length_drop, List.length_take]; rfl)) ?_; (with_reducible refine (lottery_Deal.calls k2 (wrap64 (x19_1 + 1)) t328 t329 _ _ x11_2 (l0.length : Int) t331 t332 t333 t336 _ ?side1 ?side2 A26.out ?gl).mono ?_); (case gl => refine HGL.out.below ?_; repeat (first | (with_reducible first | exact HB.out | apply below_alloc | apply pw_below_drewN | apply below_drew1 | refine below_set ?_ GE313.out | refine below_set ?_ GE330.out | refine below_set ?_ GE337.out) | exact HB.out)); (case side1 => refine (Kd.R_reads' (e := 3) (base := w.heap.size) (ok := fun k_ => (w.heap.size ≤ k_)) (n := x11_2.length) (c := co39) ?_).2.2; exact (by (with_reducible repeat (first | apply Kd.R_alloc | apply Kd.R_drewN | apply Kd.R_drew)); exact (Kd.R_mono (Kd.R_far (p := ⟨gb330, 2, none⟩) (Kd.R_far (p := ⟨gb330, 1, none⟩) (Kd.R_far (p := ⟨gb330, 0, none⟩) (Kd.R_types HO_11.out BK330.out (by decide)) (fun _ hk => hk.2) (.int .i64 (wrap64 (x19_1 + 1)))) (fun _ hk => hk.2) (.int .i64 t328)) (fun _ hk => hk.2) (.int .i64 t329)) (fun _ h_ => h_.1)))); (case side2 => exact (Kd.R_reads' HO_11.out).2.1); rintro e w40 ⟨v334, rfl, ho0, hb⟩; refine ⟨_, rfl, ?_⟩; have n0_ := Aside0.mk (Kd.N_elder' (by (with_reducible repeat (first | apply Kd.N_alloc | apply Kd.N_drewN | apply Kd.N_drew)); exact (Kd.N_mono (Kd.N_far (p := ⟨gb330, 2, none⟩) (Kd.N_far (p := ⟨gb330, 1, none⟩) (Kd.N_far (p := ⟨gb330, 0, none⟩) (Kd.N_mono HO_7.out (fun k_ hk => (⟨hk, hk.2.2.2.2⟩ : _ ∧ k_ ≠ gb330))) (fun _ hk => hk.2) (.int .i64 (wrap64 (x19_1 + 1)))) (fun _ hk => hk.2) (.int .i64 t328)) (fun _ hk => hk.2) (.int .i64 t329)) (fun _ h_ => h_.1))) (Kd.R_base ho0) hb); have n1_ := Aside0.mk (Kd.R_below (by (with_reducible repeat (first | apply Kd.R_alloc | apply Kd.R_drewN | apply Kd.R_drew)); exact (Kd.R_mono (Kd.R_far (p := ⟨gb330, 2, none⟩) (Kd.R_far (p := ⟨gb330, 1, none⟩) (Kd.R_far (p := ⟨gb330, 0, none⟩) (Kd.R_mono HO_8.out (fun k_ hk => (⟨hk, hk.2⟩ : _ ∧ k_ ≠ gb330))) (fun _ hk => hk.2) (.int .i64 (wrap64 (x19_1 + 1)))) (fun _ hk => hk.2) (.int .i64 t328)) (fun _ hk => hk.2) (.int .i64 t329)) (fun _ h_ => h_.1))) hb); have n2_ := Aside0.mk (Kd.R_below (by (with_reducible repeat (first | apply Kd.R_alloc | apply Kd.R_drewN | apply Kd.R_drew)); exact (Kd.R_mono (Kd.R_far (p := ⟨gb330, 2, none⟩) (Kd.R_far (p := ⟨gb330, 1, none⟩) (Kd.R_far (p := ⟨gb330, 0, none⟩) (Kd.R_types HO_11.out BK330.out (by decide)) (fun _ hk => hk.2) (.int .i64 (wrap64 (x19_1 + 1)))) (fun _ hk => hk.2) (.int .i64 t328)) (fun _ hk => hk.2) (.int .i64 t329)) (fun _ h_ => h_.1))) hb); have n3_ := Aside0.mk (Kd.R_lower (Kd.R_newM (M := fun k_ => (w.heap.size ≤ k_)) ho0 (below_size (by repeat (first | (with_reducible first | exact HB.out | apply below_alloc | apply pw_below_drewN | apply below_drew1 | refine below_set ?_ GE313.out | refine below_set ?_ GE330.out) | exact HB.out))) (fun k_ h_ => h_)) (below_size (by repeat (first | (with_reducible first | exact HB.out | apply below_alloc | apply pw_below_drewN | apply below_drew1 | refine below_set ?_ GE313.out | refine below_set ?_ GE330.out) | exact HB.out)))); have n4_ := Aside0.mk (blk_below (g := gb313) (o := .cells #[.int .u32 ((rd_T58 l0 x19_1).f0), .int .u32 ((rd_T58 l0 x19_1).f1), .slice A312_2 ((rd_T58 l0 x19_1).f2).length c312_2, .bool ((rd_T58 l0 x19_1).f3), .int .i64 ((rd_T58 l0 x19_1).f4), .int .i64 ((rd_T58 l0 x19_1).f5), .int .i64 ((rd_T58 l0 x19_1).f6)] 58 (0, 0)) (by (with_reducible repeat (first | refine blk_drewN ?_ _ | refine blk_drew ?_ | refine blk_alloc ?_ _)); refine blk_far ?_ NB313_330.out _; (with_reducible repeat (first | refine blk_drewN ?_ _ | refine blk_drew ?_ | refine blk_alloc ?_ _)); refine blk_far ?_ NB313_330.out _; (with_reducible repeat (first | refine blk_drewN ?_ _ | refine blk_drew ?_ | refine blk_alloc ?_ _)); refine blk_far ?_ NB313_330.out _; (with_reducible repeat (first | refine blk_drewN ?_ _ | refine blk_drew ?_ | refine blk_alloc ?_ _)); exact BK313.out) hb); have n5_ := Aside0.mk (blk_below (g := gb330) (o := .cells #[.int .i64 (wrap64 (x19_1 + 1)), .int .i64 t328, .int .i64 t329] 23 (0, 0)) (by (with_reducible repeat (first | refine blk_drewN ?_ _ | refine blk_drew ?_ | refine blk_alloc ?_ _)); refine blk_put (cs := #[.int .i64 (wrap64 (x19_1 + 1)), .int .i64 t328, .int .i64 0]) ?_ 2 _ rfl; (with_reducible repeat (first | refine blk_drewN ?_ _ | refine blk_drew ?_ | refine blk_alloc ?_ _)); refine blk_put (cs := #[.int .i64 (wrap64 (x19_1 + 1)), .int .i64 0, .int .i64 0]) ?_ 1 _ rfl; (with_reducible repeat (first | refine blk_drewN ?_ _ | refine blk_drew ?_ | refine blk_alloc ?_ _)); refine blk_put (cs := #[.int .i64 0, .int .i64 0, .int .i64 0]) ?_ 0 _ rfl; (with_reducible repeat (first | refine blk_drewN ?_ _ | refine blk_drew ?_ | refine blk_alloc ?_ _)); exact BK330.out) hb); have n6_ := Aside0.mk (below_step (by repeat (first | (with_reducible first | exact HB.out | apply below_alloc | apply pw_below_drewN | apply below_drew1 | refine below_set ?_ GE313.out | refine below_set ?_ GE330.out) | exact HB.out)) hb); clear HO_7; clear HO_8; clear HO_11; clear BK313; clear BK330; clear HB; have HO_7 := n0_; have HO_8 := n1_; have HO_11 := n2_; have HO335 := n3_; have BK313 := n4_; have BK330 := n5_; have HB := n6_; clear n0_ n1_ n2_ n3_ n4_ n5_ n6_; (try clear hb); (try clear hb2); (try clear hk); (try clear hi); (try clear ho0)) | ((with_reducible refine gate_dst (N := 15) rfl ?_); (try (refine gate_guard (by rfl) ?_; dsimp only)); refine box_event ?hg (N := 15) ?hd (cs := #[.int .i64 0, .int .u64 0, .slice none 0 0]) (t := 31) ?hr ?_; (case hd => rfl); (case hg => rfl); (case hr => first | (go_simp; done) | (go_simp; rfl)); intro gb337 hg w41 hbox hb; have n0_ := Aside0.mk (Kd.N_below (Kd.N_elderB (by (with_reducible repeat (first | apply Kd.N_alloc | apply Kd.N_drewN | apply Kd.N_drew)); exact HO_7.out) gb337 (Nat.le_of_eq hg.symm)) hb); have n1_ := Aside0.mk (Kd.R_below (by (with_reducible repeat (first | apply Kd.R_alloc | apply Kd.R_drewN | apply Kd.R_drew)); exact HO_8.out) hb); have n2_ := Aside0.mk (Kd.R_below (by (with_reducible repeat (first | apply Kd.R_alloc | apply Kd.R_drewN | apply Kd.R_drew)); exact HO_11.out) hb); have n3_ := Aside0.mk (Kd.R_below (by (with_reducible repeat (first | apply Kd.R_alloc | apply Kd.R_drewN | apply Kd.R_drew)); exact HO335.out) hb); have n4_ := Aside0.mk (blk_below (g := gb313) (o := .cells #[.int .u32 ((rd_T58 l0 x19_1).f0), .int .u32 ((rd_T58 l0 x19_1).f1), .slice A312_2 ((rd_T58 l0 x19_1).f2).length c312_2, .bool ((rd_T58 l0 x19_1).f3), .int .i64 ((rd_T58 l0 x19_1).f4), .int .i64 ((rd_T58 l0 x19_1).f5), .int .i64 ((rd_T58 l0 x19_1).f6)] 58 (0, 0)) (by (with_reducible repeat (first | refine blk_drewN ?_ _ | refine blk_drew ?_ | refine blk_alloc ?_ _)); exact BK313.out) hb); have n5_ := Aside0.mk (blk_below (g := gb330) (o := .cells #[.int .i64 (wrap64 (x19_1 + 1)), .int .i64 t328, .int .i64 t329] 23 (0, 0)) (by (with_reducible repeat (first | refine blk_drewN ?_ _ | refine blk_drew ?_ | refine blk_alloc ?_ _)); exact BK330.out) hb); have n6_ := Aside0.mk (below_step (by repeat (first | (with_reducible first | exact HB.out | apply below_alloc | apply pw_below_drewN | apply below_drew1 | refine below_set ?_ GE313.out | refine below_set ?_ GE330.out) | exact HB.out)) hb); have n7_ := Aside0.mk (hbox); have n8_ := Aside0.mk ((by rw [hg]; exact (below_size (by repeat (first | (with_reducible first | exact HB.out | apply below_alloc | apply pw_below_drewN | apply below_drew1 | refine below_set ?_ GE313.out | refine below_set ?_ GE330.out) | exact HB.out))) : w.heap.size ≤ gb337)); have n9_ := Aside0.mk ((by rw [hg]; exact (below_size (by repeat (first | (with_reducible first | exact HB.out | apply below_alloc | apply pw_below_drewN | apply below_drew1 | refine below_set ?_ GE313.out | refine below_set ?_ GE330.out) | exact HB.out))) : w.heap.size ≤ gb337)); have n10_ := Aside0.mk ((by rw [hg]; exact Nat.ne_of_lt (blk_lt (g := gb313) (o := .cells #[.int .u32 ((rd_T58 l0 x19_1).f0), .int .u32 ((rd_T58 l0 x19_1).f1), .slice A312_2 ((rd_T58 l0 x19_1).f2).length c312_2, .bool ((rd_T58 l0 x19_1).f3), .int .i64 ((rd_T58 l0 x19_1).f4), .int .i64 ((rd_T58 l0 x19_1).f5), .int .i64 ((rd_T58 l0 x19_1).f6)] 58 (0, 0)) (by (with_reducible repeat (first | refine blk_drewN ?_ _ | refine blk_drew ?_ | refine blk_alloc ?_ _)); exact BK313.out)) : gb313 ≠ gb337)); have n11_ := Aside0.mk ((by rw [hg]; exact Nat.ne_of_gt (blk_lt (g := gb313) (o := .cells #[.int .u32 ((rd_T58 l0 x19_1).f0), .int .u32 ((rd_T58 l0 x19_1).f1), .slice A312_2 ((rd_T58 l0 x19_1).f2).length c312_2, .bool ((rd_T58 l0 x19_1).f3), .int .i64 ((rd_T58 l0 x19_1).f4), .int .i64 ((rd_T58 l0 x19_1).f5), .int .i64 ((rd_T58 l0 x19_1).f6)] 58 (0, 0)) (by (with_reducible repeat (first | refine blk_drewN ?_ _ | refine blk_drew ?_ | refine blk_alloc ?_ _)); exact BK313.out)) : gb337 ≠ gb313)); have n12_ := Aside0.mk ((by rw [hg]; exact Nat.ne_of_lt (blk_lt (g := gb330) (o := .cells #[.int .i64 (wrap64 (x19_1 + 1)), .int .i64 t328, .int .i64 t329] 23 (0, 0)) (by (with_reducible repeat (first | refine blk_drewN ?_ _ | refine blk_drew ?_ | refine blk_alloc ?_ _)); exact BK330.out)) : gb330 ≠ gb337)); have n13_ := Aside0.mk ((by rw [hg]; exact Nat.ne_of_gt (blk_lt (g := gb330) (o := .cells #[.int .i64 (wrap64 (x19_1 + 1)), .int .i64 t328, .int .i64 t329] 23 (0, 0)) (by (with_reducible repeat (first | refine blk_drewN ?_ _ | refine blk_drew ?_ | refine blk_alloc ?_ _)); exact BK330.out)) : gb337 ≠ gb330)); clear HO_7; clear HO_8; clear HO_11; clear HO335; clear BK313; clear BK330; clear HB; have HO_7 := n0_; have HO_8 := n1_; have HO_11 := n2_; have HO335 := n3_; have BK313 := n4_; have BK330 := n5_; have HB := n6_; have BK337 := n7_; have GW337 := n8_; have GE337 := n9_; have NB313_337 := n10_; have NB337_313 := n11_; have NB330_337 := n12_; have NB337_330 := n13_; clear n0_ n1_ n2_ n3_ n4_ n5_ n6_ n7_ n8_ n9_ n10_ n11_ n12_ n13_; clear hb hbox hg; have hnb42 := NB337_313.out; have hnc42 := NB313_337.out; have hnb43 := NB337_330.out; have hnc43 := NB330_337.out; have hcz44_0 : w41.cell? ⟨gb337, 0, none⟩ = some (.int .i64 0) := (blk_cell BK337.out 0).trans rfl; have hcz44_1 : w41.cell? ⟨gb337, 1, none⟩ = some (.int .u64 0) := (blk_cell BK337.out 1).trans rfl; have hcz44_2 : w41.cell? ⟨gb337, 2, none⟩ = some (.slice none 0 0) := (blk_cell BK337.out 2).trans rfl; have hfz44_0 := blk_frozen BK337.out 0; have hfz44_1 := blk_frozen BK337.out 1; have hfz44_2 := blk_frozen BK337.out 2; obtain ⟨Ao45, co45, eo45⟩ := Kd.R_slice HO335.out; subst eo45; obtain ⟨Ao46, co46, eo46⟩ := Kd.N_slice HO_7.out; subst eo46; obtain ⟨Ao47, co47, eo47⟩ := Kd.R_slice HO_8.out; subst eo47))
             have n0_ : Aside0 (Kd.N k31 31 (((w41.setCell ⟨gb337, 0, none⟩ (.int .i64 t331)).setCell ⟨gb337, 1, none⟩ (.int .u64 t332)).setCell ⟨gb337, 2, none⟩ (.slice Ao45 t333.length co45)) w.heap.size (fun k_ => (w.heap.size ≤ k_) ∧ some k_ ≠ (.slice Ao47 x8_1.length co47 : Value).ownBlock ∧ some k_ ≠ (.slice Ao39 x11_2.length co39 : Value).ownBlock ∧ some k_ ≠ (.slice Ao45 t333.length co45 : Value).ownBlock ∧ k_ ≠ gb313 ∧ k_ ≠ gb330 ∧ k_ ≠ gb337) (.slice Ao46 x7_1.length co46) x7_1) := ⟨by (with_reducible repeat (first | apply Kd.N_alloc | apply Kd.N_drewN | apply Kd.N_drew)); exact Kd.N_mono (Kd.N_far (p := ⟨gb337, 2, none⟩) (Kd.N_far (p := ⟨gb337, 1, none⟩) (Kd.N_far (p := ⟨gb337, 0, none⟩) (Kd.N_mono HO_7.out (fun k_ hk => (⟨hk, hk.2⟩ : _ ∧ k_ ≠ gb337))) (fun _ hk => hk.2) (.int .i64 t331)) (fun _ hk => hk.2) (.int .u64 t332)) (fun _ hk => hk.2) (.slice Ao45 t333.length co45)) (fun _ hk => ⟨hk.1.1.1.1, ⟨hk.1.1.1.2.2.1, ⟨hk.1.1.1.2.1, ⟨hk.1.1.2, ⟨hk.1.1.1.2.2.2.1, ⟨hk.1.1.1.2.2.2.2, hk.1.2⟩⟩⟩⟩⟩⟩)⟩
             have n1_ : Aside0 (Kd.R k23 23 (((w41.setCell ⟨gb337, 0, none⟩ (.int .i64 t331)).setCell ⟨gb337, 1, none⟩ (.int .u64 t332)).setCell ⟨gb337, 2, none⟩ (.slice Ao45 t333.length co45)) w.heap.size (fun k_ => (w.heap.size ≤ k_) ∧ k_ ≠ gb330) (.slice Ao47 x8_1.length co47) x8_1) := ⟨by (with_reducible repeat (first | apply Kd.R_alloc | apply Kd.R_drewN | apply Kd.R_drew)); exact Kd.R_mono (Kd.R_far (p := ⟨gb337, 2, none⟩) (Kd.R_far (p := ⟨gb337, 1, none⟩) (Kd.R_far (p := ⟨gb337, 0, none⟩) (Kd.R_types HO_8.out BK337.out (by decide)) (fun _ hk => hk.2) (.int .i64 t331)) (fun _ hk => hk.2) (.int .u64 t332)) (fun _ hk => hk.2) (.slice Ao45 t333.length co45)) (fun _ hk => ⟨hk.1.1, hk.1.2⟩)⟩
             have n2_ : Aside0 (Kd.R (Kd.int .i64) 3 (((w41.setCell ⟨gb337, 0, none⟩ (.int .i64 t331)).setCell ⟨gb337, 1, none⟩ (.int .u64 t332)).setCell ⟨gb337, 2, none⟩ (.slice Ao45 t333.length co45)) w.heap.size (fun k_ => (w.heap.size ≤ k_)) (.slice Ao39 x11_2.length co39) x11_2) := ⟨by (with_reducible repeat (first | apply Kd.R_alloc | apply Kd.R_drewN | apply Kd.R_drew)); exact Kd.R_mono (Kd.R_far (p := ⟨gb337, 2, none⟩) (Kd.R_far (p := ⟨gb337, 1, none⟩) (Kd.R_far (p := ⟨gb337, 0, none⟩) (Kd.R_types HO_11.out BK337.out (by decide)) (fun _ hk => hk.2) (.int .i64 t331)) (fun _ hk => hk.2) (.int .u64 t332)) (fun _ hk => hk.2) (.slice Ao45 t333.length co45)) (fun _ hk => hk.1)⟩
             have n3_ : Aside0 (Kd.R k47 47 (((w41.setCell ⟨gb337, 0, none⟩ (.int .i64 t331)).setCell ⟨gb337, 1, none⟩ (.int .u64 t332)).setCell ⟨gb337, 2, none⟩ (.slice Ao45 t333.length co45)) w.heap.size (fun k_ => (w.heap.size ≤ k_)) (.slice Ao45 t333.length co45) t333) := ⟨by (with_reducible repeat (first | apply Kd.R_alloc | apply Kd.R_drewN | apply Kd.R_drew)); exact Kd.R_mono (Kd.R_far (p := ⟨gb337, 2, none⟩) (Kd.R_far (p := ⟨gb337, 1, none⟩) (Kd.R_far (p := ⟨gb337, 0, none⟩) (Kd.R_types HO335.out BK337.out (by decide)) (fun _ hk => hk.2) (.int .i64 t331)) (fun _ hk => hk.2) (.int .u64 t332)) (fun _ hk => hk.2) (.slice Ao45 t333.length co45)) (fun _ hk => hk.1.1)⟩
             have n4_ : Aside0 ((((w41.setCell ⟨gb337, 0, none⟩ (.int .i64 t331)).setCell ⟨gb337, 1, none⟩ (.int .u64 t332)).setCell ⟨gb337, 2, none⟩ (.slice Ao45 t333.length co45)).heap[gb313]? = some (.cells #[.int .u32 ((rd_T58 l0 x19_1).f0), .int .u32 ((rd_T58 l0 x19_1).f1), .slice A312_2 ((rd_T58 l0 x19_1).f2).length c312_2, .bool ((rd_T58 l0 x19_1).f3), .int .i64 ((rd_T58 l0 x19_1).f4), .int .i64 ((rd_T58 l0 x19_1).f5), .int .i64 ((rd_T58 l0 x19_1).f6)] 58 (0, 0))) := ⟨by (with_reducible repeat (first | refine blk_drewN ?_ _ | refine blk_drew ?_ | refine blk_alloc ?_ _)); refine blk_far ?_ NB313_337.out _; (with_reducible repeat (first | refine blk_drewN ?_ _ | refine blk_drew ?_ | refine blk_alloc ?_ _)); refine blk_far ?_ NB313_337.out _; (with_reducible repeat (first | refine blk_drewN ?_ _ | refine blk_drew ?_ | refine blk_alloc ?_ _)); refine blk_far ?_ NB313_337.out _; (with_reducible repeat (first | refine blk_drewN ?_ _ | refine blk_drew ?_ | refine blk_alloc ?_ _)); exact BK313.out⟩
             have n5_ : Aside0 ((((w41.setCell ⟨gb337, 0, none⟩ (.int .i64 t331)).setCell ⟨gb337, 1, none⟩ (.int .u64 t332)).setCell ⟨gb337, 2, none⟩ (.slice Ao45 t333.length co45)).heap[gb330]? = some (.cells #[.int .i64 (wrap64 (x19_1 + 1)), .int .i64 t328, .int .i64 t329] 23 (0, 0))) := ⟨by (with_reducible repeat (first | refine blk_drewN ?_ _ | refine blk_drew ?_ | refine blk_alloc ?_ _)); refine blk_far ?_ NB330_337.out _; (with_reducible repeat (first | refine blk_drewN ?_ _ | refine blk_drew ?_ | refine blk_alloc ?_ _)); refine blk_far ?_ NB330_337.out _; (with_reducible repeat (first | refine blk_drewN ?_ _ | refine blk_drew ?_ | refine blk_alloc ?_ _)); refine blk_far ?_ NB330_337.out _; (with_reducible repeat (first | refine blk_drewN ?_ _ | refine blk_drew ?_ | refine blk_alloc ?_ _)); exact BK330.out⟩
             have n6_ : Aside0 ((((w41.setCell ⟨gb337, 0, none⟩ (.int .i64 t331)).setCell ⟨gb337, 1, none⟩ (.int .u64 t332)).setCell ⟨gb337, 2, none⟩ (.slice Ao45 t333.length co45)).heap[gb337]? = some (.cells #[.int .i64 t331, .int .u64 t332, .slice Ao45 t333.length co45] 31 (0, 0))) := ⟨by (with_reducible repeat (first | refine blk_drewN ?_ _ | refine blk_drew ?_ | refine blk_alloc ?_ _)); refine blk_put (cs := #[.int .i64 t331, .int .u64 t332, .slice none 0 0]) ?_ 2 _ rfl; (with_reducible repeat (first | refine blk_drewN ?_ _ | refine blk_drew ?_ | refine blk_alloc ?_ _)); refine blk_put (cs := #[.int .i64 t331, .int .u64 0, .slice none 0 0]) ?_ 1 _ rfl; (with_reducible repeat (first | refine blk_drewN ?_ _ | refine blk_drew ?_ | refine blk_alloc ?_ _)); refine blk_put (cs := #[.int .i64 0, .int .u64 0, .slice none 0 0]) ?_ 0 _ rfl; (with_reducible repeat (first | refine blk_drewN ?_ _ | refine blk_drew ?_ | refine blk_alloc ?_ _)); exact BK337.out⟩
             have n7_ : Aside0 (Below w.heap.size w (((w41.setCell ⟨gb337, 0, none⟩ (.int .i64 t331)).setCell ⟨gb337, 1, none⟩ (.int .u64 t332)).setCell ⟨gb337, 2, none⟩ (.slice Ao45 t333.length co45))) := ⟨by repeat (first | (with_reducible first | exact HB.out | apply below_alloc | apply pw_below_drewN | apply below_drew1 | refine below_set ?_ GE313.out | refine below_set ?_ GE330.out | refine below_set ?_ GE337.out) | exact HB.out)⟩
             (try clear HO_7)
             (try clear HO_8)
             (try clear HO_11)
             (try clear HO335)
             (try clear BK313)
             (try clear BK330)
             (try clear BK337)
             (try clear HB)
             generalize (((w41.setCell ⟨gb337, 0, none⟩ (.int .i64 t331)).setCell ⟨gb337, 1, none⟩ (.int .u64 t332)).setCell ⟨gb337, 2, none⟩ (.slice Ao45 t333.length co45)) = w48 at n0_ n1_ n2_ n3_ n4_ n5_ n6_ n7_ ⊢
             have HO_7 := n0_
             have HO_8 := n1_
             have HO_11 := n2_
             have HO335 := n3_
             have BK313 := n4_
             have BK330 := n5_
             have BK337 := n6_
             have HB := n7_
             clear n0_ n1_ n2_ n3_ n4_ n5_ n6_ n7_
             have n0_ := Aside0.mk (Kd.N_drew HO_7.out)
             have n1_ := Aside0.mk (Kd.R_drew HO_8.out)
             have n2_ := Aside0.mk (Kd.R_drew HO_11.out)
             have n3_ := Aside0.mk (Kd.R_drew HO335.out)
             have n4_ := Aside0.mk (blk_drew BK313.out)
             have n5_ := Aside0.mk (blk_drew BK330.out)
             have n6_ := Aside0.mk (blk_drew BK337.out)
             have n7_ := Aside0.mk (below_drew1 HB.out)
             clear HO_7
             clear HO_8
             clear HO_11
             clear HO335
             clear BK313
             clear BK330
             clear BK337
             clear HB
             have HO_7 := n0_
             have HO_8 := n1_
             have HO_11 := n2_
             have HO335 := n3_
             have BK313 := n4_
             have BK330 := n5_
             have BK337 := n6_
             have HB := n7_
             clear n0_ n1_ n2_ n3_ n4_ n5_ n6_ n7_
             refine start_ (n := 10) (S := fun w' => w'.cell? ⟨gb337, 0, none⟩ = some (.int .i64 t331) ∧ w'.cell? ⟨gb337, 1, none⟩ = some (.int .u64 t332) ∧ w'.cell? ⟨gb337, 2, none⟩ = some (.slice Ao45 t333.length co45) ∧ w'.cell? ⟨gb330, 0, none⟩ = some (.int .i64 (wrap64 (x19_1 + 1))) ∧ w'.cell? ⟨gb330, 1, none⟩ = some (.int .i64 t328) ∧ w'.cell? ⟨gb330, 2, none⟩ = some (.int .i64 t329)) (ds := []) #[false, false, false, false, false, false, false, false, false, false] (by kernel_rfl) rfl rfl ⟨(blk_cell BK337.out 0).trans rfl, (blk_cell BK337.out 1).trans rfl, (blk_cell BK337.out 2).trans rfl, (blk_cell BK330.out 0).trans rfl, (blk_cell BK330.out 1).trans rfl, (blk_cell BK330.out 2).trans rfl⟩ (fun hHeld => ?_); refine with_tabW cohousinglaw22_dealt.tab18 cohousinglaw22_dealt.bits18 (fun HT_ HW_ => ?_)
             generalize w48.drew = w49 at HO_7 HO_8 HO_11 HO335 BK313 BK330 BK337 HB hHeld ⊢
             refine pure_ (i := 0) (N := some 72) (v := ?_) (a' := ?_) #[true, false, false, false, false, false, false, false, false, false] rfl rfl (any_of HT_.out (by kernel_rfl)) (fun _ _ _ h => h) (Or.inl ⟨by rfl, ?_⟩) ?_ ?_
             rotate_left
             ·
              intro w'
              go_simp
              with_reducible rfl
             rotate_left
             ·
              simp only [Act.put, List.setIfInBounds_toArray, List.set_cons_zero, List.set_cons_succ, i64_w, i32_w]
              rfl
             refine pure_ (i := 4) (N := some 76) (v := ?_) (a' := ?_) #[true, false, false, false, true, false, false, false, false, false] rfl rfl (any_of HT_.out (by kernel_rfl)) (fun _ _ _ h => h) (Or.inl ⟨by rfl, ?_⟩) ?_ ?_
             rotate_left
             ·
              intro w'
              go_simp
              with_reducible rfl
             rotate_left
             ·
              simp only [Act.put, List.setIfInBounds_toArray, List.set_cons_zero, List.set_cons_succ, i64_w, i32_w]
              rfl
             refine take_ (i := 1) (N := some 73) (v := ?_) (a' := ?_) #[true, true, false, false, true, false, false, false, false, false] rfl rfl (take_ofW HT_.out HW_.out (by kernel_rfl)) (fun _ _ _ h => h) (Or.inl ⟨by rfl, ?_⟩) hHeld ?_ ?_
             rotate_left
             ·
              rintro w' ⟨s0, s1, s2, s3, s4, s5⟩
              go_simp
              with_reducible rfl
             rotate_left
             ·
              simp only [Act.put, List.setIfInBounds_toArray, List.set_cons_zero, List.set_cons_succ, i64_w, i32_w]
              rfl
             refine take_ (i := 5) (N := some 77) (v := ?_) (a' := ?_) #[true, true, false, false, true, true, false, false, false, false] rfl rfl (take_ofW HT_.out HW_.out (by kernel_rfl)) (fun _ _ _ h => h) (Or.inl ⟨by rfl, ?_⟩) hHeld ?_ ?_
             rotate_left
             ·
              rintro w' ⟨s0, s1, s2, s3, s4, s5⟩
              go_simp
              with_reducible rfl
             rotate_left
             ·
              simp only [Act.put, List.setIfInBounds_toArray, List.set_cons_zero, List.set_cons_succ, i64_w, i32_w]
              rfl
             refine join_ (σ := Value × Value × Value) 3 #[true, true, true, true, true, true, true, false, false, false] (fun s_ => [(74, s_.1), (75, s_.2.1), (78, s_.2.2)]) (fun s_ w' => (w'.cell? ⟨gb337, 0, none⟩ = some (.int .i64 t331) ∧ w'.cell? ⟨gb337, 1, none⟩ = some (.int .u64 t332) ∧ w'.cell? ⟨gb337, 2, none⟩ = some (.slice Ao45 t333.length co45) ∧ w'.cell? ⟨gb330, 0, none⟩ = some (.int .i64 (wrap64 (x19_1 + 1))) ∧ w'.cell? ⟨gb330, 1, none⟩ = some (.int .i64 t328) ∧ w'.cell? ⟨gb330, 2, none⟩ = some (.int .i64 t329)) ∧ (Kd.N k31 31 w' w.heap.size (fun k_ => (w.heap.size ≤ k_) ∧ some k_ ≠ (s_.2.1 : Value).ownBlock ∧ some k_ ≠ (s_.2.2 : Value).ownBlock ∧ some k_ ≠ (.slice Ao39 x11_2.length co39 : Value).ownBlock ∧ some k_ ≠ (.slice Ao47 x8_1.length co47 : Value).ownBlock ∧ k_ ≠ gb313 ∧ k_ ≠ gb330 ∧ k_ ≠ gb337) s_.1 y338) ∧ (Kd.N k31 31 w' w.heap.size (fun k_ => (w.heap.size ≤ k_) ∧ some k_ ≠ (s_.2.2 : Value).ownBlock ∧ some k_ ≠ (.slice Ao39 x11_2.length co39 : Value).ownBlock ∧ some k_ ≠ (.slice Ao47 x8_1.length co47 : Value).ownBlock ∧ k_ ≠ gb313 ∧ k_ ≠ gb330 ∧ k_ ≠ gb337) s_.2.1 y341) ∧ (Kd.R k23 23 w' w.heap.size (fun k_ => (w.heap.size ≤ k_) ∧ some k_ ≠ (.slice Ao47 x8_1.length co47 : Value).ownBlock ∧ k_ ≠ gb330) s_.2.2 y344) ∧ (Kd.R (Kd.int .i64) 3 w' w.heap.size (fun k_ => (w.heap.size ≤ k_)) (.slice Ao39 x11_2.length co39) x11_2) ∧ (Kd.R k23 23 w' w.heap.size (fun k_ => (w.heap.size ≤ k_) ∧ some k_ ≠ (s_.2.2 : Value).ownBlock ∧ k_ ≠ gb330) (.slice Ao47 x8_1.length co47) x8_1) ∧ (w'.heap[gb313]? = some (.cells #[.int .u32 ((rd_T58 l0 x19_1).f0), .int .u32 ((rd_T58 l0 x19_1).f1), .slice A312_2 ((rd_T58 l0 x19_1).f2).length c312_2, .bool ((rd_T58 l0 x19_1).f3), .int .i64 ((rd_T58 l0 x19_1).f4), .int .i64 ((rd_T58 l0 x19_1).f5), .int .i64 ((rd_T58 l0 x19_1).f6)] 58 (0, 0))) ∧ (w'.heap[gb330]? = some (.cells #[.int .i64 (wrap64 (x19_1 + 1)), .int .i64 t328, .int .i64 t329] 23 (0, 0))) ∧ (w'.heap[gb337]? = some (.cells #[.int .i64 t331, .int .u64 t332, .slice Ao45 t333.length co45] 31 (0, 0))) ∧ (Below w.heap.size w w')) ?_ ?_
             rotate_left
             ·
              intro hCont
              refine two_ (i := 2) (j := 6) (Ni := some 74) (Nj := some 78) #[true, true, true, false, true, true, false, false, false, false] #[true, true, false, false, true, true, true, false, false, false] rfl rfl rfl rfl (two_of HT_.out (by kernel_rfl)) (by decide) (by decide) (fun K hK => ?_) (fun K hK => ?_)
              ·
               skip
               refine Kd.N_lit_step k31 _ 31 ?hg (N' := 74) ?hd (xs := ([(⟨t331, t332, t333⟩ : S31)] : List (S31))) (inner := [.int .i64 t331, .int .u64 t332, .slice Ao45 t333.length co45]) (ok := (fun k_ => (w.heap.size ≤ k_) ∧ some k_ ≠ (.slice Ao46 x7_1.length co46 : Value).ownBlock ∧ some k_ ≠ (.slice Ao47 x8_1.length co47 : Value).ownBlock ∧ some k_ ≠ (.slice Ao39 x11_2.length co39 : Value).ownBlock ∧ k_ ≠ gb313 ∧ k_ ≠ gb330 ∧ k_ ≠ gb337)) (okp := (fun k_ => (w.heap.size ≤ k_) ∧ some k_ ≠ (.slice Ao46 x7_1.length co46 : Value).ownBlock ∧ some k_ ≠ (.slice Ao47 x8_1.length co47 : Value).ownBlock ∧ some k_ ≠ (.slice Ao39 x11_2.length co39 : Value).ownBlock ∧ k_ ≠ gb313 ∧ k_ ≠ gb330 ∧ k_ ≠ gb337)) ?hr ?hp (fun _ hk => hk) ((show ∀ k_, w49.heap.size ≤ k_ → (fun k_ => (w.heap.size ≤ k_) ∧ some k_ ≠ (.slice Ao46 x7_1.length co46 : Value).ownBlock ∧ some k_ ≠ (.slice Ao47 x8_1.length co47 : Value).ownBlock ∧ some k_ ≠ (.slice Ao39 x11_2.length co39 : Value).ownBlock ∧ k_ ≠ gb313 ∧ k_ ≠ gb330 ∧ k_ ≠ gb337) k_ from fun k_ hk => ⟨(Nat.le_trans (below_size (by repeat (first | (with_reducible first | exact HB.out | apply below_alloc | apply pw_below_drewN | apply below_drew1 | refine below_set ?_ GE313.out | refine below_set ?_ GE330.out | refine below_set ?_ GE337.out) | exact HB.out))) hk), Kd.fresh' (Kd.N_lt (by (with_reducible repeat (first | apply Kd.N_alloc | apply Kd.N_drewN | apply Kd.N_drew)); exact HO_7.out)) k_ hk, Kd.fresh' (Kd.R_lt (by (with_reducible repeat (first | apply Kd.R_alloc | apply Kd.R_drewN | apply Kd.R_drew)); exact HO_8.out)) k_ hk, Kd.fresh' (Kd.R_lt (by (with_reducible repeat (first | apply Kd.R_alloc | apply Kd.R_drewN | apply Kd.R_drew)); exact HO_11.out)) k_ hk, Kd.freshB (g := gb313) (o := .cells #[.int .u32 ((rd_T58 l0 x19_1).f0), .int .u32 ((rd_T58 l0 x19_1).f1), .slice A312_2 ((rd_T58 l0 x19_1).f2).length c312_2, .bool ((rd_T58 l0 x19_1).f3), .int .i64 ((rd_T58 l0 x19_1).f4), .int .i64 ((rd_T58 l0 x19_1).f5), .int .i64 ((rd_T58 l0 x19_1).f6)] 58 (0, 0)) (by (with_reducible repeat (first | refine blk_drewN ?_ _ | refine blk_drew ?_ | refine blk_alloc ?_ _)); exact BK313.out) k_ hk, Kd.freshB (g := gb330) (o := .cells #[.int .i64 (wrap64 (x19_1 + 1)), .int .i64 t328, .int .i64 t329] 23 (0, 0)) (by (with_reducible repeat (first | refine blk_drewN ?_ _ | refine blk_drew ?_ | refine blk_alloc ?_ _)); exact BK330.out) k_ hk, Kd.freshB (g := gb337) (o := .cells #[.int .i64 t331, .int .u64 t332, .slice Ao45 t333.length co45] 31 (0, 0)) (by (with_reducible repeat (first | refine blk_drewN ?_ _ | refine blk_drew ?_ | refine blk_alloc ?_ _)); exact BK337.out) k_ hk⟩) _ (Nat.le_refl _)) (Below.refl _ _) (Nat.le_refl _) (by simp) ?_; (case hd => rfl); (case hg => rfl); (case hr => first | (go_simp; done) | (go_simp; rfl)); (case hp => exact (Reps.c3 (show Kd.FK k31 _ _ (⟨t331, t332, t333⟩ : S31) [.int .i64 t331, .int .u64 t332, .slice Ao45 t333.length co45] from (k31_mkF _ _ (⟨t331, t332, t333⟩ : S31) (Kd.R_reads' (Kd.R_mono (ok' := (fun k_ => (w.heap.size ≤ k_) ∧ some k_ ≠ (.slice Ao46 x7_1.length co46 : Value).ownBlock ∧ some k_ ≠ (.slice Ao47 x8_1.length co47 : Value).ownBlock ∧ some k_ ≠ (.slice Ao39 x11_2.length co39 : Value).ownBlock ∧ k_ ≠ gb313 ∧ k_ ≠ gb330 ∧ k_ ≠ gb337)) (Kd.R_types (Kd.R_types (Kd.R_types (Kd.R_apart' (Kd.R_apart' (Kd.R_apart' (HO335.out) (Kd.N_typed HO_7.out) (by decide)) (Kd.R_typed HO_8.out) (by decide)) (Kd.R_typed HO_11.out) (by decide)) BK313.out (by decide)) BK330.out (by decide)) BK337.out (by decide)) (fun k_ hk => ⟨hk.1.1.1.1.1.1, ⟨hk.1.1.1.1.1.2, ⟨hk.1.1.1.1.2, ⟨hk.1.1.1.2, ⟨hk.1.1.2, ⟨hk.1.2, hk.2⟩⟩⟩⟩⟩⟩))).2.1 (Kd.R_F (Kd.R_mono (ok' := (fun k_ => (w.heap.size ≤ k_) ∧ some k_ ≠ (.slice Ao46 x7_1.length co46 : Value).ownBlock ∧ some k_ ≠ (.slice Ao47 x8_1.length co47 : Value).ownBlock ∧ some k_ ≠ (.slice Ao39 x11_2.length co39 : Value).ownBlock ∧ k_ ≠ gb313 ∧ k_ ≠ gb330 ∧ k_ ≠ gb337)) (Kd.R_types (Kd.R_types (Kd.R_types (Kd.R_apart' (Kd.R_apart' (Kd.R_apart' (HO335.out) (Kd.N_typed HO_7.out) (by decide)) (Kd.R_typed HO_8.out) (by decide)) (Kd.R_typed HO_11.out) (by decide)) BK313.out (by decide)) BK330.out (by decide)) BK337.out (by decide)) (fun k_ hk => ⟨hk.1.1.1.1.1.1, ⟨hk.1.1.1.1.1.2, ⟨hk.1.1.1.1.2, ⟨hk.1.1.1.2, ⟨hk.1.1.2, ⟨hk.1.2, hk.2⟩⟩⟩⟩⟩⟩))))) (Reps.none _ _)))
               intro v339 w50 ho51 hb hg_ hnew_
               clear hg_ hnew_
               (first | rw [← Ny338.out] at ho51 | (simp only [Int.reduceToNat] at ho51; rw [← Ny338.out] at ho51))
               have n0_ := Aside0.mk (Kd.N_elder' (by (with_reducible repeat (first | apply Kd.N_alloc | apply Kd.N_drewN | apply Kd.N_drew)); exact HO_7.out) (Kd.N_base ho51) hb)
               have n1_ := Aside0.mk (Kd.R_below (by (with_reducible repeat (first | apply Kd.R_alloc | apply Kd.R_drewN | apply Kd.R_drew)); exact HO_8.out) hb)
               have n2_ := Aside0.mk (Kd.R_below (by (with_reducible repeat (first | apply Kd.R_alloc | apply Kd.R_drewN | apply Kd.R_drew)); exact HO_11.out) hb)
               have n3_ := Aside0.mk (Kd.N_lower ho51 (below_size (by repeat (first | (with_reducible first | exact HB.out | apply below_alloc | apply pw_below_drewN | apply below_drew1 | refine below_set ?_ GE313.out | refine below_set ?_ GE330.out | refine below_set ?_ GE337.out) | exact HB.out))))
               have n4_ := Aside0.mk (blk_below (g := gb313) (o := .cells #[.int .u32 ((rd_T58 l0 x19_1).f0), .int .u32 ((rd_T58 l0 x19_1).f1), .slice A312_2 ((rd_T58 l0 x19_1).f2).length c312_2, .bool ((rd_T58 l0 x19_1).f3), .int .i64 ((rd_T58 l0 x19_1).f4), .int .i64 ((rd_T58 l0 x19_1).f5), .int .i64 ((rd_T58 l0 x19_1).f6)] 58 (0, 0)) (by (with_reducible repeat (first | refine blk_drewN ?_ _ | refine blk_drew ?_ | refine blk_alloc ?_ _)); exact BK313.out) hb)
               have n5_ := Aside0.mk (blk_below (g := gb330) (o := .cells #[.int .i64 (wrap64 (x19_1 + 1)), .int .i64 t328, .int .i64 t329] 23 (0, 0)) (by (with_reducible repeat (first | refine blk_drewN ?_ _ | refine blk_drew ?_ | refine blk_alloc ?_ _)); exact BK330.out) hb)
               have n6_ := Aside0.mk (blk_below (g := gb337) (o := .cells #[.int .i64 t331, .int .u64 t332, .slice Ao45 t333.length co45] 31 (0, 0)) (by (with_reducible repeat (first | refine blk_drewN ?_ _ | refine blk_drew ?_ | refine blk_alloc ?_ _)); exact BK337.out) hb)
               have n7_ := Aside0.mk (below_step (by repeat (first | (with_reducible first | exact HB.out | apply below_alloc | apply pw_below_drewN | apply below_drew1 | refine below_set ?_ GE313.out | refine below_set ?_ GE330.out | refine below_set ?_ GE337.out) | exact HB.out)) hb)
               clear HO_7
               clear HO_8
               clear HO_11
               clear BK313
               clear BK330
               clear BK337
               clear HB
               clear HO335
               have HO_7 := n0_
               have HO_8 := n1_
               have HO_11 := n2_
               have HO340 := n3_
               have BK313 := n4_
               have BK330 := n5_
               have BK337 := n6_
               have HB := n7_
               clear n0_ n1_ n2_ n3_ n4_ n5_ n6_ n7_
               clear hb ho51
               obtain ⟨Ao53, co53, eo53⟩ := Kd.N_slice HO340.out
               (first | subst eo53 | (injection eo53 with f1_ f2_ f3_; have f4_ := f1_.symm; have f5_ := f3_.symm; clear f1_ f2_ f3_; subst f4_; subst f5_))
               refine hK.out _ _ ⟨(blk_cell BK337.out 0).trans rfl, (blk_cell BK337.out 1).trans rfl, (blk_cell BK337.out 2).trans rfl, (blk_cell BK330.out 0).trans rfl, (blk_cell BK330.out 1).trans rfl, (blk_cell BK330.out 2).trans rfl⟩ (fun hHeld => ?_)
               clear hK K
               refine norm_ (a' := ?_) ?_ ?_
               rotate_left
               ·
                show Act.put _ (some 74) _ = _
                simp only [Act.put, List.setIfInBounds_toArray, List.set_cons_zero, List.set_cons_succ, i64_w, i32_w]
                rfl
               refine two_ (i := 3) (j := 6) (Ni := some 75) (Nj := some 78) #[true, true, true, true, true, true, false, false, false, false] #[true, true, true, false, true, true, true, false, false, false] rfl rfl rfl rfl (two_of HT_.out (by kernel_rfl)) (by decide) (by decide) (fun K hK => ?_) (fun K hK => ?_)
               ·
                skip
                refine Kd.N_append_rows_step k31 (w0 := w) w.heap.size (by rfl) (.tmp 72) (.tmp 74) 26 31 (.agg #[(.int .i64 0), (.int .u64 0), (.slice none 0 0)]) 40 rfl Tryd.underlying26 info31 rfl (by decide) (by omega) (.slice Ao46 x7_1.length co46) x7_1 y338 _ _ _ (fun k_ => (w.heap.size ≤ k_) ∧ some k_ ≠ (.slice Ao47 x8_1.length co47 : Value).ownBlock ∧ some k_ ≠ (.slice Ao39 x11_2.length co39 : Value).ownBlock ∧ k_ ≠ gb313 ∧ k_ ≠ gb330 ∧ k_ ≠ gb337) (fun k_ => ((fun k_ => (w.heap.size ≤ k_) ∧ some k_ ≠ (.slice Ao47 x8_1.length co47 : Value).ownBlock ∧ some k_ ≠ (.slice Ao39 x11_2.length co39 : Value).ownBlock ∧ k_ ≠ gb313 ∧ k_ ≠ gb330 ∧ k_ ≠ gb337)) k_ ∧ some k_ ≠ (.slice Ao46 x7_1.length co46 : Value).ownBlock) rfl rfl ?aO ?aR (fun _ hk => hk) ?aF ?aB ?aS ?aL ?_
                (case aR => exact (by skip; exact Kd.N_F (Kd.N_mono (ok' := (fun k_ => ((fun k_ => (w.heap.size ≤ k_) ∧ some k_ ≠ (.slice Ao47 x8_1.length co47 : Value).ownBlock ∧ some k_ ≠ (.slice Ao39 x11_2.length co39 : Value).ownBlock ∧ k_ ≠ gb313 ∧ k_ ≠ gb330 ∧ k_ ≠ gb337)) k_ ∧ some k_ ≠ (.slice Ao46 x7_1.length co46 : Value).ownBlock)) (HO340.out) (fun k_ hk => ⟨⟨hk.1, ⟨hk.2.2.1, ⟨hk.2.2.2.1, ⟨hk.2.2.2.2.1, ⟨hk.2.2.2.2.2.1, hk.2.2.2.2.2.2⟩⟩⟩⟩⟩, hk.2.1⟩))))
                (case aB => exact (by repeat (first | (with_reducible first | exact HB.out | apply below_alloc | apply pw_below_drewN | apply below_drew1 | refine below_set ?_ GE313.out | refine below_set ?_ GE330.out | refine below_set ?_ GE337.out) | exact HB.out)))
                (case aF => exact (fun k_ hk => ⟨(Nat.le_trans (below_size (by repeat (first | (with_reducible first | exact HB.out | apply below_alloc | apply pw_below_drewN | apply below_drew1 | refine below_set ?_ GE313.out | refine below_set ?_ GE330.out | refine below_set ?_ GE337.out) | exact HB.out))) hk), Kd.fresh' (Kd.R_lt (by (with_reducible repeat (first | apply Kd.R_alloc | apply Kd.R_drewN | apply Kd.R_drew)); exact HO_8.out)) k_ hk, Kd.fresh' (Kd.R_lt (by (with_reducible repeat (first | apply Kd.R_alloc | apply Kd.R_drewN | apply Kd.R_drew)); exact HO_11.out)) k_ hk, Kd.freshB (g := gb313) (o := .cells #[.int .u32 ((rd_T58 l0 x19_1).f0), .int .u32 ((rd_T58 l0 x19_1).f1), .slice A312_2 ((rd_T58 l0 x19_1).f2).length c312_2, .bool ((rd_T58 l0 x19_1).f3), .int .i64 ((rd_T58 l0 x19_1).f4), .int .i64 ((rd_T58 l0 x19_1).f5), .int .i64 ((rd_T58 l0 x19_1).f6)] 58 (0, 0)) (by (with_reducible repeat (first | refine blk_drewN ?_ _ | refine blk_drew ?_ | refine blk_alloc ?_ _)); exact BK313.out) k_ hk, Kd.freshB (g := gb330) (o := .cells #[.int .i64 (wrap64 (x19_1 + 1)), .int .i64 t328, .int .i64 t329] 23 (0, 0)) (by (with_reducible repeat (first | refine blk_drewN ?_ _ | refine blk_drew ?_ | refine blk_alloc ?_ _)); exact BK330.out) k_ hk, Kd.freshB (g := gb337) (o := .cells #[.int .i64 t331, .int .u64 t332, .slice Ao45 t333.length co45] 31 (0, 0)) (by (with_reducible repeat (first | refine blk_drewN ?_ _ | refine blk_drew ?_ | refine blk_alloc ?_ _)); exact BK337.out) k_ hk⟩))
                (case aO => exact (by (with_reducible repeat (first | apply Kd.N_alloc | apply Kd.N_drewN | apply Kd.N_drew)); exact Kd.N_mono HO_7.out (fun _ hk => ⟨hk.1.1, ⟨hk.1.2.1, ⟨hk.1.2.2.1, ⟨hk.1.2.2.2.2.1, ⟨hk.1.2.2.2.2.2.1, hk.1.2.2.2.2.2.2⟩⟩⟩⟩⟩)))
                (case aS => exact (below_size (by repeat (first | (with_reducible first | exact HB.out | apply below_alloc | apply pw_below_drewN | apply below_drew1 | refine below_set ?_ GE313.out | refine below_set ?_ GE330.out | refine below_set ?_ GE337.out) | exact HB.out))))
                (case aL => have := LMc29.out; omega)
                intro v342 w52 ho hb hg hat
                rw [← Ny341.out] at ho
                have n0_ := Aside0.mk (Kd.R_over' (by (with_reducible repeat (first | apply Kd.R_alloc | apply Kd.R_drewN | apply Kd.R_drew)); exact HO_8.out) (Kd.N_typed (by (with_reducible repeat (first | apply Kd.N_alloc | apply Kd.N_drewN | apply Kd.N_drew)); exact HO_7.out)) (by decide) hg)
                have n1_ := Aside0.mk (Kd.R_over' (by (with_reducible repeat (first | apply Kd.R_alloc | apply Kd.R_drewN | apply Kd.R_drew)); exact HO_11.out) (Kd.N_typed (by (with_reducible repeat (first | apply Kd.N_alloc | apply Kd.N_drewN | apply Kd.N_drew)); exact HO_7.out)) (by decide) hg)
                have n2_ := Aside0.mk (blk_grown (g := gb313) (o := .cells #[.int .u32 ((rd_T58 l0 x19_1).f0), .int .u32 ((rd_T58 l0 x19_1).f1), .slice A312_2 ((rd_T58 l0 x19_1).f2).length c312_2, .bool ((rd_T58 l0 x19_1).f3), .int .i64 ((rd_T58 l0 x19_1).f4), .int .i64 ((rd_T58 l0 x19_1).f5), .int .i64 ((rd_T58 l0 x19_1).f6)] 58 (0, 0)) (by (with_reducible repeat (first | refine blk_drewN ?_ _ | refine blk_drew ?_ | refine blk_alloc ?_ _)); exact BK313.out) hg (Kd.N_ne HO_7.out BK313.out (by decide)))
                have n3_ := Aside0.mk (blk_grown (g := gb330) (o := .cells #[.int .i64 (wrap64 (x19_1 + 1)), .int .i64 t328, .int .i64 t329] 23 (0, 0)) (by (with_reducible repeat (first | refine blk_drewN ?_ _ | refine blk_drew ?_ | refine blk_alloc ?_ _)); exact BK330.out) hg (Kd.N_ne HO_7.out BK330.out (by decide)))
                have n4_ := Aside0.mk (blk_grown (g := gb337) (o := .cells #[.int .i64 t331, .int .u64 t332, .slice Ao45 t333.length co45] 31 (0, 0)) (by (with_reducible repeat (first | refine blk_drewN ?_ _ | refine blk_drew ?_ | refine blk_alloc ?_ _)); exact BK337.out) hg (Kd.N_away HO_7.out (fun _ hk => hk.1.2.2.2.2.2.2)))
                have n5_ := Aside0.mk (Kd.N_afterv (ok := (fun k_ => (w.heap.size ≤ k_) ∧ some k_ ≠ (.slice Ao47 x8_1.length co47 : Value).ownBlock ∧ some k_ ≠ (.slice Ao39 x11_2.length co39 : Value).ownBlock ∧ k_ ≠ gb313 ∧ k_ ≠ gb330 ∧ k_ ≠ gb337)) (by (with_reducible repeat (first | apply Kd.N_alloc | apply Kd.N_drewN | apply Kd.N_drew)); exact Kd.N_mono HO340.out (fun _ hk => ⟨⟨hk.1, ⟨hk.2.2.1, ⟨hk.2.2.2.1, ⟨hk.2.2.2.2.1, ⟨hk.2.2.2.2.2.1, hk.2.2.2.2.2.2⟩⟩⟩⟩⟩, hk.2.1⟩)) hg hat)
                have n6_ := Aside0.mk (hb)
                have n7_ := Aside0.mk (ho)
                clear HO_8
                clear HO_11
                clear BK313
                clear BK330
                clear BK337
                clear HO340
                clear HB
                clear HO_7
                have HO_8 := n0_
                have HO_11 := n1_
                have BK313 := n2_
                have BK330 := n3_
                have BK337 := n4_
                have HO340 := n5_
                have HB := n6_
                have HO343 := n7_
                clear n0_ n1_ n2_ n3_ n4_ n5_ n6_ n7_
                clear ho hb hg hat
                refine hK.out _ _ ⟨(blk_cell BK337.out 0).trans rfl, (blk_cell BK337.out 1).trans rfl, (blk_cell BK337.out 2).trans rfl, (blk_cell BK330.out 0).trans rfl, (blk_cell BK330.out 1).trans rfl, (blk_cell BK330.out 2).trans rfl⟩ (fun hHeld => ?_)
                clear hK K
                refine norm_ (a' := ?_) ?_ ?_
                rotate_left
                ·
                 show Act.put _ (some 75) _ = _
                 simp only [Act.put, List.setIfInBounds_toArray, List.set_cons_zero, List.set_cons_succ, i64_w, i32_w]
                 rfl
                refine one_ (i := 6) (N := some 78) #[true, true, true, true, true, true, true, false, false, false] rfl rfl (one_of HT_.out (by kernel_rfl)) (by decide) (fun K hK => ?_)
                refine Kd.R_lit_step k23 _ 23 ?hg (N := 78) ?hd (xs := ([(⟨wrap64 (x19_1 + 1), t328, t329⟩ : S23)] : List (S23))) (inner := [.int .i64 (wrap64 (x19_1 + 1)), .int .i64 t328, .int .i64 t329]) (ok := fun _ => True) (okp := fun _ => True) ?hr ?hp (fun _ hk => hk) trivial (Below.refl _ _) (Nat.le_refl _) (by simp) ?_; (case hd => rfl); (case hg => rfl); (case hr => first | (go_simp; done) | (go_simp; rfl)); (case hp => exact (Reps.c3 (show Kd.M k23 _ _ _ (⟨wrap64 (x19_1 + 1), t328, t329⟩ : S23) [.int .i64 (wrap64 (x19_1 + 1)), .int .i64 t328, .int .i64 t329] from (k23_mkM _ _ _ (⟨wrap64 (x19_1 + 1), t328, t329⟩ : S23) )) (Reps.none _ _)))
                intro v345 w54 ho55 hb hg_ hnew_
                clear hg_ hnew_
                (first | rw [← Ny344.out] at ho55 | (simp only [Int.reduceToNat] at ho55; rw [← Ny344.out] at ho55))
                have n0_ := Aside0.mk (Kd.R_elder' (by (with_reducible repeat (first | apply Kd.R_alloc | apply Kd.R_drewN | apply Kd.R_drew)); exact HO_8.out) (Kd.R_base ho55) hb)
                have n1_ := Aside0.mk (Kd.R_below (by (with_reducible repeat (first | apply Kd.R_alloc | apply Kd.R_drewN | apply Kd.R_drew)); exact HO_11.out) hb)
                have n2_ := Aside0.mk (Kd.N_elder' (by (with_reducible repeat (first | apply Kd.N_alloc | apply Kd.N_drewN | apply Kd.N_drew)); exact HO340.out) (Kd.R_base ho55) hb)
                have n3_ := Aside0.mk (Kd.N_elder' (by (with_reducible repeat (first | apply Kd.N_alloc | apply Kd.N_drewN | apply Kd.N_drew)); exact HO343.out) (Kd.R_base ho55) hb)
                have n4_ := Aside0.mk (Kd.R_lower (Kd.R_newB (Kd.R_new' (Kd.R_newM (M := fun k_ => (w.heap.size ≤ k_)) ho55 (below_size (by repeat (first | (with_reducible first | exact HB.out | apply below_alloc | apply pw_below_drewN | apply below_drew1 | refine below_set ?_ GE313.out | refine below_set ?_ GE330.out | refine below_set ?_ GE337.out) | exact HB.out))) (fun k_ h_ => h_)) (Kd.R_lt (by (with_reducible repeat (first | apply Kd.R_alloc | apply Kd.R_drewN | apply Kd.R_drew)); exact HO_8.out))) (g := gb330) (o := .cells #[.int .i64 (wrap64 (x19_1 + 1)), .int .i64 t328, .int .i64 t329] 23 (0, 0)) (by (with_reducible repeat (first | refine blk_drewN ?_ _ | refine blk_drew ?_ | refine blk_alloc ?_ _)); exact BK330.out)) (below_size (by repeat (first | (with_reducible first | exact HB.out | apply below_alloc | apply pw_below_drewN | apply below_drew1 | refine below_set ?_ GE313.out | refine below_set ?_ GE330.out | refine below_set ?_ GE337.out) | exact HB.out))))
                have n5_ := Aside0.mk (blk_below (g := gb313) (o := .cells #[.int .u32 ((rd_T58 l0 x19_1).f0), .int .u32 ((rd_T58 l0 x19_1).f1), .slice A312_2 ((rd_T58 l0 x19_1).f2).length c312_2, .bool ((rd_T58 l0 x19_1).f3), .int .i64 ((rd_T58 l0 x19_1).f4), .int .i64 ((rd_T58 l0 x19_1).f5), .int .i64 ((rd_T58 l0 x19_1).f6)] 58 (0, 0)) (by (with_reducible repeat (first | refine blk_drewN ?_ _ | refine blk_drew ?_ | refine blk_alloc ?_ _)); exact BK313.out) hb)
                have n6_ := Aside0.mk (blk_below (g := gb330) (o := .cells #[.int .i64 (wrap64 (x19_1 + 1)), .int .i64 t328, .int .i64 t329] 23 (0, 0)) (by (with_reducible repeat (first | refine blk_drewN ?_ _ | refine blk_drew ?_ | refine blk_alloc ?_ _)); exact BK330.out) hb)
                have n7_ := Aside0.mk (blk_below (g := gb337) (o := .cells #[.int .i64 t331, .int .u64 t332, .slice Ao45 t333.length co45] 31 (0, 0)) (by (with_reducible repeat (first | refine blk_drewN ?_ _ | refine blk_drew ?_ | refine blk_alloc ?_ _)); exact BK337.out) hb)
                have n8_ := Aside0.mk (below_step (by repeat (first | (with_reducible first | exact HB.out | apply below_alloc | apply pw_below_drewN | apply below_drew1 | refine below_set ?_ GE313.out | refine below_set ?_ GE330.out | refine below_set ?_ GE337.out) | exact HB.out)) hb)
                clear HO_8
                clear HO_11
                clear HO340
                clear HO343
                clear BK313
                clear BK330
                clear BK337
                clear HB
                have HO_8 := n0_
                have HO_11 := n1_
                have HO340 := n2_
                have HO343 := n3_
                have HO346 := n4_
                have BK313 := n5_
                have BK330 := n6_
                have BK337 := n7_
                have HB := n8_
                clear n0_ n1_ n2_ n3_ n4_ n5_ n6_ n7_ n8_
                clear hb ho55
                refine hK.out _ _ ⟨(blk_cell BK337.out 0).trans rfl, (blk_cell BK337.out 1).trans rfl, (blk_cell BK337.out 2).trans rfl, (blk_cell BK330.out 0).trans rfl, (blk_cell BK330.out 1).trans rfl, (blk_cell BK330.out 2).trans rfl⟩ (fun hHeld => ?_)
                clear hK K
                refine norm_ (a' := ?_) ?_ ?_
                rotate_left
                ·
                 show Act.put _ (some 78) _ = _
                 simp only [Act.put, List.setIfInBounds_toArray, List.set_cons_zero, List.set_cons_succ, i64_w, i32_w]
                 rfl
                exact norm_ (by simp only [putAll, Act.put, List.setIfInBounds_toArray, List.set_cons_zero, List.set_cons_succ]) (hCont (.slice Ao53 y338.length co53, v342, v345) _ ⟨hHeld, (by (with_reducible repeat (first | apply Kd.N_alloc | apply Kd.N_drewN | apply Kd.N_drew)); exact Kd.N_mono HO340.out (fun _ hk => ⟨hk.1.1.1, ⟨hk.1.2, ⟨hk.2, ⟨hk.1.1.2.2.1, ⟨hk.1.1.2.1, ⟨hk.1.1.2.2.2.1, ⟨hk.1.1.2.2.2.2.1, hk.1.1.2.2.2.2.2⟩⟩⟩⟩⟩⟩⟩)), (by (with_reducible repeat (first | apply Kd.N_alloc | apply Kd.N_drewN | apply Kd.N_drew)); exact Kd.N_mono HO343.out (fun _ hk => ⟨hk.1.1, ⟨hk.2, ⟨hk.1.2.2.1, ⟨hk.1.2.1, ⟨hk.1.2.2.2.1, ⟨hk.1.2.2.2.2.1, hk.1.2.2.2.2.2⟩⟩⟩⟩⟩⟩)), (by (with_reducible repeat (first | apply Kd.R_alloc | apply Kd.R_drewN | apply Kd.R_drew)); exact Kd.R_mono HO346.out (fun _ hk => ⟨hk.1.1.1, ⟨hk.1.2, hk.2⟩⟩)), (by (with_reducible repeat (first | apply Kd.R_alloc | apply Kd.R_drewN | apply Kd.R_drew)); exact HO_11.out), (by (with_reducible repeat (first | apply Kd.R_alloc | apply Kd.R_drewN | apply Kd.R_drew)); exact Kd.R_mono HO_8.out (fun _ hk => ⟨hk.1.1, ⟨hk.2, hk.1.2⟩⟩)), (by (with_reducible repeat (first | refine blk_drewN ?_ _ | refine blk_drew ?_ | refine blk_alloc ?_ _)); exact BK313.out), (by (with_reducible repeat (first | refine blk_drewN ?_ _ | refine blk_drew ?_ | refine blk_alloc ?_ _)); exact BK330.out), (by (with_reducible repeat (first | refine blk_drewN ?_ _ | refine blk_drew ?_ | refine blk_alloc ?_ _)); exact BK337.out), (by repeat (first | (with_reducible first | exact HB.out | apply below_alloc | apply pw_below_drewN | apply below_drew1 | refine below_set ?_ GE313.out | refine below_set ?_ GE330.out | refine below_set ?_ GE337.out) | exact HB.out))⟩)
               ·
                skip
                refine Kd.R_lit_step k23 _ 23 ?hg (N := 78) ?hd (xs := ([(⟨wrap64 (x19_1 + 1), t328, t329⟩ : S23)] : List (S23))) (inner := [.int .i64 (wrap64 (x19_1 + 1)), .int .i64 t328, .int .i64 t329]) (ok := fun _ => True) (okp := fun _ => True) ?hr ?hp (fun _ hk => hk) trivial (Below.refl _ _) (Nat.le_refl _) (by simp) ?_; (case hd => rfl); (case hg => rfl); (case hr => first | (go_simp; done) | (go_simp; rfl)); (case hp => exact (Reps.c3 (show Kd.M k23 _ _ _ (⟨wrap64 (x19_1 + 1), t328, t329⟩ : S23) [.int .i64 (wrap64 (x19_1 + 1)), .int .i64 t328, .int .i64 t329] from (k23_mkM _ _ _ (⟨wrap64 (x19_1 + 1), t328, t329⟩ : S23) )) (Reps.none _ _)))
                intro v345 w52 ho53 hb hg_ hnew_
                clear hg_ hnew_
                (first | rw [← Ny344.out] at ho53 | (simp only [Int.reduceToNat] at ho53; rw [← Ny344.out] at ho53))
                have n0_ := Aside0.mk (Kd.N_elder' (by (with_reducible repeat (first | apply Kd.N_alloc | apply Kd.N_drewN | apply Kd.N_drew)); exact HO_7.out) (Kd.R_base ho53) hb)
                have n1_ := Aside0.mk (Kd.R_elder' (by (with_reducible repeat (first | apply Kd.R_alloc | apply Kd.R_drewN | apply Kd.R_drew)); exact HO_8.out) (Kd.R_base ho53) hb)
                have n2_ := Aside0.mk (Kd.R_below (by (with_reducible repeat (first | apply Kd.R_alloc | apply Kd.R_drewN | apply Kd.R_drew)); exact HO_11.out) hb)
                have n3_ := Aside0.mk (Kd.N_elder' (by (with_reducible repeat (first | apply Kd.N_alloc | apply Kd.N_drewN | apply Kd.N_drew)); exact HO340.out) (Kd.R_base ho53) hb)
                have n4_ := Aside0.mk (Kd.R_lower (Kd.R_newB (Kd.R_new' (Kd.R_newM (M := fun k_ => (w.heap.size ≤ k_)) ho53 (below_size (by repeat (first | (with_reducible first | exact HB.out | apply below_alloc | apply pw_below_drewN | apply below_drew1 | refine below_set ?_ GE313.out | refine below_set ?_ GE330.out | refine below_set ?_ GE337.out) | exact HB.out))) (fun k_ h_ => h_)) (Kd.R_lt (by (with_reducible repeat (first | apply Kd.R_alloc | apply Kd.R_drewN | apply Kd.R_drew)); exact HO_8.out))) (g := gb330) (o := .cells #[.int .i64 (wrap64 (x19_1 + 1)), .int .i64 t328, .int .i64 t329] 23 (0, 0)) (by (with_reducible repeat (first | refine blk_drewN ?_ _ | refine blk_drew ?_ | refine blk_alloc ?_ _)); exact BK330.out)) (below_size (by repeat (first | (with_reducible first | exact HB.out | apply below_alloc | apply pw_below_drewN | apply below_drew1 | refine below_set ?_ GE313.out | refine below_set ?_ GE330.out | refine below_set ?_ GE337.out) | exact HB.out))))
                have n5_ := Aside0.mk (blk_below (g := gb313) (o := .cells #[.int .u32 ((rd_T58 l0 x19_1).f0), .int .u32 ((rd_T58 l0 x19_1).f1), .slice A312_2 ((rd_T58 l0 x19_1).f2).length c312_2, .bool ((rd_T58 l0 x19_1).f3), .int .i64 ((rd_T58 l0 x19_1).f4), .int .i64 ((rd_T58 l0 x19_1).f5), .int .i64 ((rd_T58 l0 x19_1).f6)] 58 (0, 0)) (by (with_reducible repeat (first | refine blk_drewN ?_ _ | refine blk_drew ?_ | refine blk_alloc ?_ _)); exact BK313.out) hb)
                have n6_ := Aside0.mk (blk_below (g := gb330) (o := .cells #[.int .i64 (wrap64 (x19_1 + 1)), .int .i64 t328, .int .i64 t329] 23 (0, 0)) (by (with_reducible repeat (first | refine blk_drewN ?_ _ | refine blk_drew ?_ | refine blk_alloc ?_ _)); exact BK330.out) hb)
                have n7_ := Aside0.mk (blk_below (g := gb337) (o := .cells #[.int .i64 t331, .int .u64 t332, .slice Ao45 t333.length co45] 31 (0, 0)) (by (with_reducible repeat (first | refine blk_drewN ?_ _ | refine blk_drew ?_ | refine blk_alloc ?_ _)); exact BK337.out) hb)
                have n8_ := Aside0.mk (below_step (by repeat (first | (with_reducible first | exact HB.out | apply below_alloc | apply pw_below_drewN | apply below_drew1 | refine below_set ?_ GE313.out | refine below_set ?_ GE330.out | refine below_set ?_ GE337.out) | exact HB.out)) hb)
                clear HO_7
                clear HO_8
                clear HO_11
                clear HO340
                clear BK313
                clear BK330
                clear BK337
                clear HB
                have HO_7 := n0_
                have HO_8 := n1_
                have HO_11 := n2_
                have HO340 := n3_
                have HO346 := n4_
                have BK313 := n5_
                have BK330 := n6_
                have BK337 := n7_
                have HB := n8_
                clear n0_ n1_ n2_ n3_ n4_ n5_ n6_ n7_ n8_
                clear hb ho53
                obtain ⟨Ao55, co55, eo55⟩ := Kd.N_slice HO340.out
                (first | subst eo55 | (injection eo55 with f1_ f2_ f3_; have f4_ := f1_.symm; have f5_ := f3_.symm; clear f1_ f2_ f3_; subst f4_; subst f5_))
                refine hK.out _ _ ⟨(blk_cell BK337.out 0).trans rfl, (blk_cell BK337.out 1).trans rfl, (blk_cell BK337.out 2).trans rfl, (blk_cell BK330.out 0).trans rfl, (blk_cell BK330.out 1).trans rfl, (blk_cell BK330.out 2).trans rfl⟩ (fun hHeld => ?_)
                clear hK K
                refine norm_ (a' := ?_) ?_ ?_
                rotate_left
                ·
                 show Act.put _ (some 78) _ = _
                 simp only [Act.put, List.setIfInBounds_toArray, List.set_cons_zero, List.set_cons_succ, i64_w, i32_w]
                 rfl
                refine one_ (i := 3) (N := some 75) #[true, true, true, true, true, true, true, false, false, false] rfl rfl (one_of HT_.out (by kernel_rfl)) (by decide) (fun K hK => ?_)
                refine Kd.N_append_rows_step k31 (w0 := w) w.heap.size (by rfl) (.tmp 72) (.tmp 74) 26 31 (.agg #[(.int .i64 0), (.int .u64 0), (.slice none 0 0)]) 40 rfl Tryd.underlying26 info31 rfl (by decide) (by omega) (.slice Ao46 x7_1.length co46) x7_1 y338 _ _ _ (fun k_ => (w.heap.size ≤ k_) ∧ some k_ ≠ (.slice Ao47 x8_1.length co47 : Value).ownBlock ∧ some k_ ≠ (.slice Ao39 x11_2.length co39 : Value).ownBlock ∧ some k_ ≠ (v345 : Value).ownBlock ∧ k_ ≠ gb313 ∧ k_ ≠ gb330 ∧ k_ ≠ gb337) (fun k_ => ((fun k_ => (w.heap.size ≤ k_) ∧ some k_ ≠ (.slice Ao47 x8_1.length co47 : Value).ownBlock ∧ some k_ ≠ (.slice Ao39 x11_2.length co39 : Value).ownBlock ∧ some k_ ≠ (v345 : Value).ownBlock ∧ k_ ≠ gb313 ∧ k_ ≠ gb330 ∧ k_ ≠ gb337)) k_ ∧ some k_ ≠ (.slice Ao46 x7_1.length co46 : Value).ownBlock) rfl rfl ?aO ?aR (fun _ hk => hk) ?aF ?aB ?aS ?aL ?_
                (case aR => exact (by skip; exact Kd.N_F (Kd.N_mono (ok' := (fun k_ => ((fun k_ => (w.heap.size ≤ k_) ∧ some k_ ≠ (.slice Ao47 x8_1.length co47 : Value).ownBlock ∧ some k_ ≠ (.slice Ao39 x11_2.length co39 : Value).ownBlock ∧ some k_ ≠ (v345 : Value).ownBlock ∧ k_ ≠ gb313 ∧ k_ ≠ gb330 ∧ k_ ≠ gb337)) k_ ∧ some k_ ≠ (.slice Ao46 x7_1.length co46 : Value).ownBlock)) (HO340.out) (fun k_ hk => ⟨⟨hk.1.1, ⟨hk.1.2.2.1, ⟨hk.1.2.2.2.1, ⟨hk.2, ⟨hk.1.2.2.2.2.1, ⟨hk.1.2.2.2.2.2.1, hk.1.2.2.2.2.2.2⟩⟩⟩⟩⟩⟩, hk.1.2.1⟩))))
                (case aB => exact (by repeat (first | (with_reducible first | exact HB.out | apply below_alloc | apply pw_below_drewN | apply below_drew1 | refine below_set ?_ GE313.out | refine below_set ?_ GE330.out | refine below_set ?_ GE337.out) | exact HB.out)))
                (case aF => exact (fun k_ hk => ⟨(Nat.le_trans (below_size (by repeat (first | (with_reducible first | exact HB.out | apply below_alloc | apply pw_below_drewN | apply below_drew1 | refine below_set ?_ GE313.out | refine below_set ?_ GE330.out | refine below_set ?_ GE337.out) | exact HB.out))) hk), Kd.fresh' (Kd.R_lt (by (with_reducible repeat (first | apply Kd.R_alloc | apply Kd.R_drewN | apply Kd.R_drew)); exact HO_8.out)) k_ hk, Kd.fresh' (Kd.R_lt (by (with_reducible repeat (first | apply Kd.R_alloc | apply Kd.R_drewN | apply Kd.R_drew)); exact HO_11.out)) k_ hk, Kd.fresh' (Kd.R_lt (by (with_reducible repeat (first | apply Kd.R_alloc | apply Kd.R_drewN | apply Kd.R_drew)); exact HO346.out)) k_ hk, Kd.freshB (g := gb313) (o := .cells #[.int .u32 ((rd_T58 l0 x19_1).f0), .int .u32 ((rd_T58 l0 x19_1).f1), .slice A312_2 ((rd_T58 l0 x19_1).f2).length c312_2, .bool ((rd_T58 l0 x19_1).f3), .int .i64 ((rd_T58 l0 x19_1).f4), .int .i64 ((rd_T58 l0 x19_1).f5), .int .i64 ((rd_T58 l0 x19_1).f6)] 58 (0, 0)) (by (with_reducible repeat (first | refine blk_drewN ?_ _ | refine blk_drew ?_ | refine blk_alloc ?_ _)); exact BK313.out) k_ hk, Kd.freshB (g := gb330) (o := .cells #[.int .i64 (wrap64 (x19_1 + 1)), .int .i64 t328, .int .i64 t329] 23 (0, 0)) (by (with_reducible repeat (first | refine blk_drewN ?_ _ | refine blk_drew ?_ | refine blk_alloc ?_ _)); exact BK330.out) k_ hk, Kd.freshB (g := gb337) (o := .cells #[.int .i64 t331, .int .u64 t332, .slice Ao45 t333.length co45] 31 (0, 0)) (by (with_reducible repeat (first | refine blk_drewN ?_ _ | refine blk_drew ?_ | refine blk_alloc ?_ _)); exact BK337.out) k_ hk⟩))
                (case aO => exact (by (with_reducible repeat (first | apply Kd.N_alloc | apply Kd.N_drewN | apply Kd.N_drew)); exact Kd.N_mono HO_7.out (fun _ hk => ⟨hk.1.1.1, ⟨hk.1.1.2.1, ⟨hk.1.1.2.2.1, ⟨hk.2, ⟨hk.1.1.2.2.2.2.1, ⟨hk.1.1.2.2.2.2.2.1, hk.1.1.2.2.2.2.2.2⟩⟩⟩⟩⟩⟩)))
                (case aS => exact (below_size (by repeat (first | (with_reducible first | exact HB.out | apply below_alloc | apply pw_below_drewN | apply below_drew1 | refine below_set ?_ GE313.out | refine below_set ?_ GE330.out | refine below_set ?_ GE337.out) | exact HB.out))))
                (case aL => have := LMc29.out; omega)
                intro v342 w54 ho hb hg hat
                rw [← Ny341.out] at ho
                have n0_ := Aside0.mk (Kd.R_over' (by (with_reducible repeat (first | apply Kd.R_alloc | apply Kd.R_drewN | apply Kd.R_drew)); exact HO_8.out) (Kd.N_typed (by (with_reducible repeat (first | apply Kd.N_alloc | apply Kd.N_drewN | apply Kd.N_drew)); exact HO_7.out)) (by decide) hg)
                have n1_ := Aside0.mk (Kd.R_over' (by (with_reducible repeat (first | apply Kd.R_alloc | apply Kd.R_drewN | apply Kd.R_drew)); exact HO_11.out) (Kd.N_typed (by (with_reducible repeat (first | apply Kd.N_alloc | apply Kd.N_drewN | apply Kd.N_drew)); exact HO_7.out)) (by decide) hg)
                have n2_ := Aside0.mk (blk_grown (g := gb313) (o := .cells #[.int .u32 ((rd_T58 l0 x19_1).f0), .int .u32 ((rd_T58 l0 x19_1).f1), .slice A312_2 ((rd_T58 l0 x19_1).f2).length c312_2, .bool ((rd_T58 l0 x19_1).f3), .int .i64 ((rd_T58 l0 x19_1).f4), .int .i64 ((rd_T58 l0 x19_1).f5), .int .i64 ((rd_T58 l0 x19_1).f6)] 58 (0, 0)) (by (with_reducible repeat (first | refine blk_drewN ?_ _ | refine blk_drew ?_ | refine blk_alloc ?_ _)); exact BK313.out) hg (Kd.N_ne HO_7.out BK313.out (by decide)))
                have n3_ := Aside0.mk (blk_grown (g := gb330) (o := .cells #[.int .i64 (wrap64 (x19_1 + 1)), .int .i64 t328, .int .i64 t329] 23 (0, 0)) (by (with_reducible repeat (first | refine blk_drewN ?_ _ | refine blk_drew ?_ | refine blk_alloc ?_ _)); exact BK330.out) hg (Kd.N_ne HO_7.out BK330.out (by decide)))
                have n4_ := Aside0.mk (blk_grown (g := gb337) (o := .cells #[.int .i64 t331, .int .u64 t332, .slice Ao45 t333.length co45] 31 (0, 0)) (by (with_reducible repeat (first | refine blk_drewN ?_ _ | refine blk_drew ?_ | refine blk_alloc ?_ _)); exact BK337.out) hg (Kd.N_away HO_7.out (fun _ hk => hk.1.1.2.2.2.2.2.2)))
                have n5_ := Aside0.mk (Kd.N_afterv (ok := (fun k_ => (w.heap.size ≤ k_) ∧ some k_ ≠ (.slice Ao47 x8_1.length co47 : Value).ownBlock ∧ some k_ ≠ (.slice Ao39 x11_2.length co39 : Value).ownBlock ∧ some k_ ≠ (v345 : Value).ownBlock ∧ k_ ≠ gb313 ∧ k_ ≠ gb330 ∧ k_ ≠ gb337)) (by (with_reducible repeat (first | apply Kd.N_alloc | apply Kd.N_drewN | apply Kd.N_drew)); exact Kd.N_mono HO340.out (fun _ hk => ⟨⟨hk.1.1, ⟨hk.1.2.2.1, ⟨hk.1.2.2.2.1, ⟨hk.2, ⟨hk.1.2.2.2.2.1, ⟨hk.1.2.2.2.2.2.1, hk.1.2.2.2.2.2.2⟩⟩⟩⟩⟩⟩, hk.1.2.1⟩)) hg hat)
                have n6_ := Aside0.mk (Kd.R_over' (by (with_reducible repeat (first | apply Kd.R_alloc | apply Kd.R_drewN | apply Kd.R_drew)); exact HO346.out) (Kd.N_typed (by (with_reducible repeat (first | apply Kd.N_alloc | apply Kd.N_drewN | apply Kd.N_drew)); exact HO_7.out)) (by decide) hg)
                have n7_ := Aside0.mk (hb)
                have n8_ := Aside0.mk (ho)
                clear HO_8
                clear HO_11
                clear BK313
                clear BK330
                clear BK337
                clear HO340
                clear HO346
                clear HB
                clear HO_7
                have HO_8 := n0_
                have HO_11 := n1_
                have BK313 := n2_
                have BK330 := n3_
                have BK337 := n4_
                have HO340 := n5_
                have HO346 := n6_
                have HB := n7_
                have HO343 := n8_
                clear n0_ n1_ n2_ n3_ n4_ n5_ n6_ n7_ n8_
                clear ho hb hg hat
                refine hK.out _ _ ⟨(blk_cell BK337.out 0).trans rfl, (blk_cell BK337.out 1).trans rfl, (blk_cell BK337.out 2).trans rfl, (blk_cell BK330.out 0).trans rfl, (blk_cell BK330.out 1).trans rfl, (blk_cell BK330.out 2).trans rfl⟩ (fun hHeld => ?_)
                clear hK K
                refine norm_ (a' := ?_) ?_ ?_
                rotate_left
                ·
                 show Act.put _ (some 75) _ = _
                 simp only [Act.put, List.setIfInBounds_toArray, List.set_cons_zero, List.set_cons_succ, i64_w, i32_w]
                 rfl
                exact norm_ (by simp only [putAll, Act.put, List.setIfInBounds_toArray, List.set_cons_zero, List.set_cons_succ]) (hCont (.slice Ao55 y338.length co55, v342, v345) _ ⟨hHeld, (by (with_reducible repeat (first | apply Kd.N_alloc | apply Kd.N_drewN | apply Kd.N_drew)); exact Kd.N_mono HO340.out (fun _ hk => ⟨hk.1.1, ⟨hk.2, ⟨hk.1.2.2.2.1, ⟨hk.1.2.2.1, ⟨hk.1.2.1, ⟨hk.1.2.2.2.2.1, ⟨hk.1.2.2.2.2.2.1, hk.1.2.2.2.2.2.2⟩⟩⟩⟩⟩⟩⟩)), (by (with_reducible repeat (first | apply Kd.N_alloc | apply Kd.N_drewN | apply Kd.N_drew)); exact Kd.N_mono HO343.out (fun _ hk => ⟨hk.1, ⟨hk.2.2.2.1, ⟨hk.2.2.1, ⟨hk.2.1, ⟨hk.2.2.2.2.1, ⟨hk.2.2.2.2.2.1, hk.2.2.2.2.2.2⟩⟩⟩⟩⟩⟩)), (by (with_reducible repeat (first | apply Kd.R_alloc | apply Kd.R_drewN | apply Kd.R_drew)); exact Kd.R_mono HO346.out (fun _ hk => ⟨hk.1.1.1, ⟨hk.1.2, hk.2⟩⟩)), (by (with_reducible repeat (first | apply Kd.R_alloc | apply Kd.R_drewN | apply Kd.R_drew)); exact HO_11.out), (by (with_reducible repeat (first | apply Kd.R_alloc | apply Kd.R_drewN | apply Kd.R_drew)); exact Kd.R_mono HO_8.out (fun _ hk => ⟨hk.1.1, ⟨hk.2, hk.1.2⟩⟩)), (by (with_reducible repeat (first | refine blk_drewN ?_ _ | refine blk_drew ?_ | refine blk_alloc ?_ _)); exact BK313.out), (by (with_reducible repeat (first | refine blk_drewN ?_ _ | refine blk_drew ?_ | refine blk_alloc ?_ _)); exact BK330.out), (by (with_reducible repeat (first | refine blk_drewN ?_ _ | refine blk_drew ?_ | refine blk_alloc ?_ _)); exact BK337.out), (by repeat (first | (with_reducible first | exact HB.out | apply below_alloc | apply pw_below_drewN | apply below_drew1 | refine below_set ?_ GE313.out | refine below_set ?_ GE330.out | refine below_set ?_ GE337.out) | exact HB.out))⟩)
              ·
               skip
               refine Kd.R_lit_step k23 _ 23 ?hg (N := 78) ?hd (xs := ([(⟨wrap64 (x19_1 + 1), t328, t329⟩ : S23)] : List (S23))) (inner := [.int .i64 (wrap64 (x19_1 + 1)), .int .i64 t328, .int .i64 t329]) (ok := fun _ => True) (okp := fun _ => True) ?hr ?hp (fun _ hk => hk) trivial (Below.refl _ _) (Nat.le_refl _) (by simp) ?_; (case hd => rfl); (case hg => rfl); (case hr => first | (go_simp; done) | (go_simp; rfl)); (case hp => exact (Reps.c3 (show Kd.M k23 _ _ _ (⟨wrap64 (x19_1 + 1), t328, t329⟩ : S23) [.int .i64 (wrap64 (x19_1 + 1)), .int .i64 t328, .int .i64 t329] from (k23_mkM _ _ _ (⟨wrap64 (x19_1 + 1), t328, t329⟩ : S23) )) (Reps.none _ _)))
               intro v345 w50 ho51 hb hg_ hnew_
               clear hg_ hnew_
               (first | rw [← Ny344.out] at ho51 | (simp only [Int.reduceToNat] at ho51; rw [← Ny344.out] at ho51))
               have n0_ := Aside0.mk (Kd.N_elder' (by (with_reducible repeat (first | apply Kd.N_alloc | apply Kd.N_drewN | apply Kd.N_drew)); exact HO_7.out) (Kd.R_base ho51) hb)
               have n1_ := Aside0.mk (Kd.R_elder' (by (with_reducible repeat (first | apply Kd.R_alloc | apply Kd.R_drewN | apply Kd.R_drew)); exact HO_8.out) (Kd.R_base ho51) hb)
               have n2_ := Aside0.mk (Kd.R_below (by (with_reducible repeat (first | apply Kd.R_alloc | apply Kd.R_drewN | apply Kd.R_drew)); exact HO_11.out) hb)
               have n3_ := Aside0.mk (Kd.R_below (by (with_reducible repeat (first | apply Kd.R_alloc | apply Kd.R_drewN | apply Kd.R_drew)); exact HO335.out) hb)
               have n4_ := Aside0.mk (Kd.R_lower (Kd.R_newB (Kd.R_new' (Kd.R_newM (M := fun k_ => (w.heap.size ≤ k_)) ho51 (below_size (by repeat (first | (with_reducible first | exact HB.out | apply below_alloc | apply pw_below_drewN | apply below_drew1 | refine below_set ?_ GE313.out | refine below_set ?_ GE330.out | refine below_set ?_ GE337.out) | exact HB.out))) (fun k_ h_ => h_)) (Kd.R_lt (by (with_reducible repeat (first | apply Kd.R_alloc | apply Kd.R_drewN | apply Kd.R_drew)); exact HO_8.out))) (g := gb330) (o := .cells #[.int .i64 (wrap64 (x19_1 + 1)), .int .i64 t328, .int .i64 t329] 23 (0, 0)) (by (with_reducible repeat (first | refine blk_drewN ?_ _ | refine blk_drew ?_ | refine blk_alloc ?_ _)); exact BK330.out)) (below_size (by repeat (first | (with_reducible first | exact HB.out | apply below_alloc | apply pw_below_drewN | apply below_drew1 | refine below_set ?_ GE313.out | refine below_set ?_ GE330.out | refine below_set ?_ GE337.out) | exact HB.out))))
               have n5_ := Aside0.mk (blk_below (g := gb313) (o := .cells #[.int .u32 ((rd_T58 l0 x19_1).f0), .int .u32 ((rd_T58 l0 x19_1).f1), .slice A312_2 ((rd_T58 l0 x19_1).f2).length c312_2, .bool ((rd_T58 l0 x19_1).f3), .int .i64 ((rd_T58 l0 x19_1).f4), .int .i64 ((rd_T58 l0 x19_1).f5), .int .i64 ((rd_T58 l0 x19_1).f6)] 58 (0, 0)) (by (with_reducible repeat (first | refine blk_drewN ?_ _ | refine blk_drew ?_ | refine blk_alloc ?_ _)); exact BK313.out) hb)
               have n6_ := Aside0.mk (blk_below (g := gb330) (o := .cells #[.int .i64 (wrap64 (x19_1 + 1)), .int .i64 t328, .int .i64 t329] 23 (0, 0)) (by (with_reducible repeat (first | refine blk_drewN ?_ _ | refine blk_drew ?_ | refine blk_alloc ?_ _)); exact BK330.out) hb)
               have n7_ := Aside0.mk (blk_below (g := gb337) (o := .cells #[.int .i64 t331, .int .u64 t332, .slice Ao45 t333.length co45] 31 (0, 0)) (by (with_reducible repeat (first | refine blk_drewN ?_ _ | refine blk_drew ?_ | refine blk_alloc ?_ _)); exact BK337.out) hb)
               have n8_ := Aside0.mk (below_step (by repeat (first | (with_reducible first | exact HB.out | apply below_alloc | apply pw_below_drewN | apply below_drew1 | refine below_set ?_ GE313.out | refine below_set ?_ GE330.out | refine below_set ?_ GE337.out) | exact HB.out)) hb)
               clear HO_7
               clear HO_8
               clear HO_11
               clear HO335
               clear BK313
               clear BK330
               clear BK337
               clear HB
               have HO_7 := n0_
               have HO_8 := n1_
               have HO_11 := n2_
               have HO335 := n3_
               have HO346 := n4_
               have BK313 := n5_
               have BK330 := n6_
               have BK337 := n7_
               have HB := n8_
               clear n0_ n1_ n2_ n3_ n4_ n5_ n6_ n7_ n8_
               clear hb ho51
               refine hK.out _ _ ⟨(blk_cell BK337.out 0).trans rfl, (blk_cell BK337.out 1).trans rfl, (blk_cell BK337.out 2).trans rfl, (blk_cell BK330.out 0).trans rfl, (blk_cell BK330.out 1).trans rfl, (blk_cell BK330.out 2).trans rfl⟩ (fun hHeld => ?_)
               clear hK K
               refine norm_ (a' := ?_) ?_ ?_
               rotate_left
               ·
                show Act.put _ (some 78) _ = _
                simp only [Act.put, List.setIfInBounds_toArray, List.set_cons_zero, List.set_cons_succ, i64_w, i32_w]
                rfl
               refine one_ (i := 2) (N := some 74) #[true, true, true, false, true, true, true, false, false, false] rfl rfl (one_of HT_.out (by kernel_rfl)) (by decide) (fun K hK => ?_)
               refine Kd.N_lit_step k31 _ 31 ?hg (N' := 74) ?hd (xs := ([(⟨t331, t332, t333⟩ : S31)] : List (S31))) (inner := [.int .i64 t331, .int .u64 t332, .slice Ao45 t333.length co45]) (ok := (fun k_ => (w.heap.size ≤ k_) ∧ some k_ ≠ (.slice Ao46 x7_1.length co46 : Value).ownBlock ∧ some k_ ≠ (.slice Ao47 x8_1.length co47 : Value).ownBlock ∧ some k_ ≠ (.slice Ao39 x11_2.length co39 : Value).ownBlock ∧ some k_ ≠ (v345 : Value).ownBlock ∧ k_ ≠ gb313 ∧ k_ ≠ gb330 ∧ k_ ≠ gb337)) (okp := (fun k_ => (w.heap.size ≤ k_) ∧ some k_ ≠ (.slice Ao46 x7_1.length co46 : Value).ownBlock ∧ some k_ ≠ (.slice Ao47 x8_1.length co47 : Value).ownBlock ∧ some k_ ≠ (.slice Ao39 x11_2.length co39 : Value).ownBlock ∧ some k_ ≠ (v345 : Value).ownBlock ∧ k_ ≠ gb313 ∧ k_ ≠ gb330 ∧ k_ ≠ gb337)) ?hr ?hp (fun _ hk => hk) ((show ∀ k_, w50.heap.size ≤ k_ → (fun k_ => (w.heap.size ≤ k_) ∧ some k_ ≠ (.slice Ao46 x7_1.length co46 : Value).ownBlock ∧ some k_ ≠ (.slice Ao47 x8_1.length co47 : Value).ownBlock ∧ some k_ ≠ (.slice Ao39 x11_2.length co39 : Value).ownBlock ∧ some k_ ≠ (v345 : Value).ownBlock ∧ k_ ≠ gb313 ∧ k_ ≠ gb330 ∧ k_ ≠ gb337) k_ from fun k_ hk => ⟨(Nat.le_trans (below_size (by repeat (first | (with_reducible first | exact HB.out | apply below_alloc | apply pw_below_drewN | apply below_drew1 | refine below_set ?_ GE313.out | refine below_set ?_ GE330.out | refine below_set ?_ GE337.out) | exact HB.out))) hk), Kd.fresh' (Kd.N_lt (by (with_reducible repeat (first | apply Kd.N_alloc | apply Kd.N_drewN | apply Kd.N_drew)); exact HO_7.out)) k_ hk, Kd.fresh' (Kd.R_lt (by (with_reducible repeat (first | apply Kd.R_alloc | apply Kd.R_drewN | apply Kd.R_drew)); exact HO_8.out)) k_ hk, Kd.fresh' (Kd.R_lt (by (with_reducible repeat (first | apply Kd.R_alloc | apply Kd.R_drewN | apply Kd.R_drew)); exact HO_11.out)) k_ hk, Kd.fresh' (Kd.R_lt (by (with_reducible repeat (first | apply Kd.R_alloc | apply Kd.R_drewN | apply Kd.R_drew)); exact HO346.out)) k_ hk, Kd.freshB (g := gb313) (o := .cells #[.int .u32 ((rd_T58 l0 x19_1).f0), .int .u32 ((rd_T58 l0 x19_1).f1), .slice A312_2 ((rd_T58 l0 x19_1).f2).length c312_2, .bool ((rd_T58 l0 x19_1).f3), .int .i64 ((rd_T58 l0 x19_1).f4), .int .i64 ((rd_T58 l0 x19_1).f5), .int .i64 ((rd_T58 l0 x19_1).f6)] 58 (0, 0)) (by (with_reducible repeat (first | refine blk_drewN ?_ _ | refine blk_drew ?_ | refine blk_alloc ?_ _)); exact BK313.out) k_ hk, Kd.freshB (g := gb330) (o := .cells #[.int .i64 (wrap64 (x19_1 + 1)), .int .i64 t328, .int .i64 t329] 23 (0, 0)) (by (with_reducible repeat (first | refine blk_drewN ?_ _ | refine blk_drew ?_ | refine blk_alloc ?_ _)); exact BK330.out) k_ hk, Kd.freshB (g := gb337) (o := .cells #[.int .i64 t331, .int .u64 t332, .slice Ao45 t333.length co45] 31 (0, 0)) (by (with_reducible repeat (first | refine blk_drewN ?_ _ | refine blk_drew ?_ | refine blk_alloc ?_ _)); exact BK337.out) k_ hk⟩) _ (Nat.le_refl _)) (Below.refl _ _) (Nat.le_refl _) (by simp) ?_; (case hd => rfl); (case hg => rfl); (case hr => first | (go_simp; done) | (go_simp; rfl)); (case hp => exact (Reps.c3 (show Kd.FK k31 _ _ (⟨t331, t332, t333⟩ : S31) [.int .i64 t331, .int .u64 t332, .slice Ao45 t333.length co45] from (k31_mkF _ _ (⟨t331, t332, t333⟩ : S31) (Kd.R_reads' (Kd.R_mono (ok' := (fun k_ => (w.heap.size ≤ k_) ∧ some k_ ≠ (.slice Ao46 x7_1.length co46 : Value).ownBlock ∧ some k_ ≠ (.slice Ao47 x8_1.length co47 : Value).ownBlock ∧ some k_ ≠ (.slice Ao39 x11_2.length co39 : Value).ownBlock ∧ some k_ ≠ (v345 : Value).ownBlock ∧ k_ ≠ gb313 ∧ k_ ≠ gb330 ∧ k_ ≠ gb337)) (Kd.R_types (Kd.R_types (Kd.R_types (Kd.R_apart' (Kd.R_apart' (Kd.R_apart' (Kd.R_apart' (HO335.out) (Kd.N_typed HO_7.out) (by decide)) (Kd.R_typed HO_8.out) (by decide)) (Kd.R_typed HO_11.out) (by decide)) (Kd.R_typed HO346.out) (by decide)) BK313.out (by decide)) BK330.out (by decide)) BK337.out (by decide)) (fun k_ hk => ⟨hk.1.1.1.1.1.1.1, ⟨hk.1.1.1.1.1.1.2, ⟨hk.1.1.1.1.1.2, ⟨hk.1.1.1.1.2, ⟨hk.1.1.1.2, ⟨hk.1.1.2, ⟨hk.1.2, hk.2⟩⟩⟩⟩⟩⟩⟩))).2.1 (Kd.R_F (Kd.R_mono (ok' := (fun k_ => (w.heap.size ≤ k_) ∧ some k_ ≠ (.slice Ao46 x7_1.length co46 : Value).ownBlock ∧ some k_ ≠ (.slice Ao47 x8_1.length co47 : Value).ownBlock ∧ some k_ ≠ (.slice Ao39 x11_2.length co39 : Value).ownBlock ∧ some k_ ≠ (v345 : Value).ownBlock ∧ k_ ≠ gb313 ∧ k_ ≠ gb330 ∧ k_ ≠ gb337)) (Kd.R_types (Kd.R_types (Kd.R_types (Kd.R_apart' (Kd.R_apart' (Kd.R_apart' (Kd.R_apart' (HO335.out) (Kd.N_typed HO_7.out) (by decide)) (Kd.R_typed HO_8.out) (by decide)) (Kd.R_typed HO_11.out) (by decide)) (Kd.R_typed HO346.out) (by decide)) BK313.out (by decide)) BK330.out (by decide)) BK337.out (by decide)) (fun k_ hk => ⟨hk.1.1.1.1.1.1.1, ⟨hk.1.1.1.1.1.1.2, ⟨hk.1.1.1.1.1.2, ⟨hk.1.1.1.1.2, ⟨hk.1.1.1.2, ⟨hk.1.1.2, ⟨hk.1.2, hk.2⟩⟩⟩⟩⟩⟩⟩))))) (Reps.none _ _)))
               intro v339 w52 ho53 hb hg_ hnew_
               clear hg_ hnew_
               (first | rw [← Ny338.out] at ho53 | (simp only [Int.reduceToNat] at ho53; rw [← Ny338.out] at ho53))
               have n0_ := Aside0.mk (Kd.N_elder' (by (with_reducible repeat (first | apply Kd.N_alloc | apply Kd.N_drewN | apply Kd.N_drew)); exact HO_7.out) (Kd.N_base ho53) hb)
               have n1_ := Aside0.mk (Kd.R_below (by (with_reducible repeat (first | apply Kd.R_alloc | apply Kd.R_drewN | apply Kd.R_drew)); exact HO_8.out) hb)
               have n2_ := Aside0.mk (Kd.R_below (by (with_reducible repeat (first | apply Kd.R_alloc | apply Kd.R_drewN | apply Kd.R_drew)); exact HO_11.out) hb)
               have n3_ := Aside0.mk (Kd.R_below (by (with_reducible repeat (first | apply Kd.R_alloc | apply Kd.R_drewN | apply Kd.R_drew)); exact HO346.out) hb)
               have n4_ := Aside0.mk (Kd.N_lower ho53 (below_size (by repeat (first | (with_reducible first | exact HB.out | apply below_alloc | apply pw_below_drewN | apply below_drew1 | refine below_set ?_ GE313.out | refine below_set ?_ GE330.out | refine below_set ?_ GE337.out) | exact HB.out))))
               have n5_ := Aside0.mk (blk_below (g := gb313) (o := .cells #[.int .u32 ((rd_T58 l0 x19_1).f0), .int .u32 ((rd_T58 l0 x19_1).f1), .slice A312_2 ((rd_T58 l0 x19_1).f2).length c312_2, .bool ((rd_T58 l0 x19_1).f3), .int .i64 ((rd_T58 l0 x19_1).f4), .int .i64 ((rd_T58 l0 x19_1).f5), .int .i64 ((rd_T58 l0 x19_1).f6)] 58 (0, 0)) (by (with_reducible repeat (first | refine blk_drewN ?_ _ | refine blk_drew ?_ | refine blk_alloc ?_ _)); exact BK313.out) hb)
               have n6_ := Aside0.mk (blk_below (g := gb330) (o := .cells #[.int .i64 (wrap64 (x19_1 + 1)), .int .i64 t328, .int .i64 t329] 23 (0, 0)) (by (with_reducible repeat (first | refine blk_drewN ?_ _ | refine blk_drew ?_ | refine blk_alloc ?_ _)); exact BK330.out) hb)
               have n7_ := Aside0.mk (blk_below (g := gb337) (o := .cells #[.int .i64 t331, .int .u64 t332, .slice Ao45 t333.length co45] 31 (0, 0)) (by (with_reducible repeat (first | refine blk_drewN ?_ _ | refine blk_drew ?_ | refine blk_alloc ?_ _)); exact BK337.out) hb)
               have n8_ := Aside0.mk (below_step (by repeat (first | (with_reducible first | exact HB.out | apply below_alloc | apply pw_below_drewN | apply below_drew1 | refine below_set ?_ GE313.out | refine below_set ?_ GE330.out | refine below_set ?_ GE337.out) | exact HB.out)) hb)
               clear HO_7
               clear HO_8
               clear HO_11
               clear HO346
               clear BK313
               clear BK330
               clear BK337
               clear HB
               clear HO335
               have HO_7 := n0_
               have HO_8 := n1_
               have HO_11 := n2_
               have HO346 := n3_
               have HO340 := n4_
               have BK313 := n5_
               have BK330 := n6_
               have BK337 := n7_
               have HB := n8_
               clear n0_ n1_ n2_ n3_ n4_ n5_ n6_ n7_ n8_
               clear hb ho53
               obtain ⟨Ao55, co55, eo55⟩ := Kd.N_slice HO340.out
               (first | subst eo55 | (injection eo55 with f1_ f2_ f3_; have f4_ := f1_.symm; have f5_ := f3_.symm; clear f1_ f2_ f3_; subst f4_; subst f5_))
               refine hK.out _ _ ⟨(blk_cell BK337.out 0).trans rfl, (blk_cell BK337.out 1).trans rfl, (blk_cell BK337.out 2).trans rfl, (blk_cell BK330.out 0).trans rfl, (blk_cell BK330.out 1).trans rfl, (blk_cell BK330.out 2).trans rfl⟩ (fun hHeld => ?_)
               clear hK K
               refine norm_ (a' := ?_) ?_ ?_
               rotate_left
               ·
                show Act.put _ (some 74) _ = _
                simp only [Act.put, List.setIfInBounds_toArray, List.set_cons_zero, List.set_cons_succ, i64_w, i32_w]
                rfl
               refine one_ (i := 3) (N := some 75) #[true, true, true, true, true, true, true, false, false, false] rfl rfl (one_of HT_.out (by kernel_rfl)) (by decide) (fun K hK => ?_)
               refine Kd.N_append_rows_step k31 (w0 := w) w.heap.size (by rfl) (.tmp 72) (.tmp 74) 26 31 (.agg #[(.int .i64 0), (.int .u64 0), (.slice none 0 0)]) 40 rfl Tryd.underlying26 info31 rfl (by decide) (by omega) (.slice Ao46 x7_1.length co46) x7_1 y338 _ _ _ (fun k_ => (w.heap.size ≤ k_) ∧ some k_ ≠ (.slice Ao47 x8_1.length co47 : Value).ownBlock ∧ some k_ ≠ (.slice Ao39 x11_2.length co39 : Value).ownBlock ∧ some k_ ≠ (v345 : Value).ownBlock ∧ k_ ≠ gb313 ∧ k_ ≠ gb330 ∧ k_ ≠ gb337) (fun k_ => ((fun k_ => (w.heap.size ≤ k_) ∧ some k_ ≠ (.slice Ao47 x8_1.length co47 : Value).ownBlock ∧ some k_ ≠ (.slice Ao39 x11_2.length co39 : Value).ownBlock ∧ some k_ ≠ (v345 : Value).ownBlock ∧ k_ ≠ gb313 ∧ k_ ≠ gb330 ∧ k_ ≠ gb337)) k_ ∧ some k_ ≠ (.slice Ao46 x7_1.length co46 : Value).ownBlock) rfl rfl ?aO ?aR (fun _ hk => hk) ?aF ?aB ?aS ?aL ?_
               (case aR => exact (by skip; exact Kd.N_F (Kd.N_mono (ok' := (fun k_ => ((fun k_ => (w.heap.size ≤ k_) ∧ some k_ ≠ (.slice Ao47 x8_1.length co47 : Value).ownBlock ∧ some k_ ≠ (.slice Ao39 x11_2.length co39 : Value).ownBlock ∧ some k_ ≠ (v345 : Value).ownBlock ∧ k_ ≠ gb313 ∧ k_ ≠ gb330 ∧ k_ ≠ gb337)) k_ ∧ some k_ ≠ (.slice Ao46 x7_1.length co46 : Value).ownBlock)) (HO340.out) (fun k_ hk => ⟨⟨hk.1, ⟨hk.2.2.1, ⟨hk.2.2.2.1, ⟨hk.2.2.2.2.1, ⟨hk.2.2.2.2.2.1, ⟨hk.2.2.2.2.2.2.1, hk.2.2.2.2.2.2.2⟩⟩⟩⟩⟩⟩, hk.2.1⟩))))
               (case aB => exact (by repeat (first | (with_reducible first | exact HB.out | apply below_alloc | apply pw_below_drewN | apply below_drew1 | refine below_set ?_ GE313.out | refine below_set ?_ GE330.out | refine below_set ?_ GE337.out) | exact HB.out)))
               (case aF => exact (fun k_ hk => ⟨(Nat.le_trans (below_size (by repeat (first | (with_reducible first | exact HB.out | apply below_alloc | apply pw_below_drewN | apply below_drew1 | refine below_set ?_ GE313.out | refine below_set ?_ GE330.out | refine below_set ?_ GE337.out) | exact HB.out))) hk), Kd.fresh' (Kd.R_lt (by (with_reducible repeat (first | apply Kd.R_alloc | apply Kd.R_drewN | apply Kd.R_drew)); exact HO_8.out)) k_ hk, Kd.fresh' (Kd.R_lt (by (with_reducible repeat (first | apply Kd.R_alloc | apply Kd.R_drewN | apply Kd.R_drew)); exact HO_11.out)) k_ hk, Kd.fresh' (Kd.R_lt (by (with_reducible repeat (first | apply Kd.R_alloc | apply Kd.R_drewN | apply Kd.R_drew)); exact HO346.out)) k_ hk, Kd.freshB (g := gb313) (o := .cells #[.int .u32 ((rd_T58 l0 x19_1).f0), .int .u32 ((rd_T58 l0 x19_1).f1), .slice A312_2 ((rd_T58 l0 x19_1).f2).length c312_2, .bool ((rd_T58 l0 x19_1).f3), .int .i64 ((rd_T58 l0 x19_1).f4), .int .i64 ((rd_T58 l0 x19_1).f5), .int .i64 ((rd_T58 l0 x19_1).f6)] 58 (0, 0)) (by (with_reducible repeat (first | refine blk_drewN ?_ _ | refine blk_drew ?_ | refine blk_alloc ?_ _)); exact BK313.out) k_ hk, Kd.freshB (g := gb330) (o := .cells #[.int .i64 (wrap64 (x19_1 + 1)), .int .i64 t328, .int .i64 t329] 23 (0, 0)) (by (with_reducible repeat (first | refine blk_drewN ?_ _ | refine blk_drew ?_ | refine blk_alloc ?_ _)); exact BK330.out) k_ hk, Kd.freshB (g := gb337) (o := .cells #[.int .i64 t331, .int .u64 t332, .slice Ao45 t333.length co45] 31 (0, 0)) (by (with_reducible repeat (first | refine blk_drewN ?_ _ | refine blk_drew ?_ | refine blk_alloc ?_ _)); exact BK337.out) k_ hk⟩))
               (case aO => exact (by (with_reducible repeat (first | apply Kd.N_alloc | apply Kd.N_drewN | apply Kd.N_drew)); exact Kd.N_mono HO_7.out (fun _ hk => ⟨hk.1.1.1, ⟨hk.1.1.2.1, ⟨hk.1.1.2.2.1, ⟨hk.1.2, ⟨hk.1.1.2.2.2.2.1, ⟨hk.1.1.2.2.2.2.2.1, hk.1.1.2.2.2.2.2.2⟩⟩⟩⟩⟩⟩)))
               (case aS => exact (below_size (by repeat (first | (with_reducible first | exact HB.out | apply below_alloc | apply pw_below_drewN | apply below_drew1 | refine below_set ?_ GE313.out | refine below_set ?_ GE330.out | refine below_set ?_ GE337.out) | exact HB.out))))
               (case aL => have := LMc29.out; omega)
               intro v342 w54 ho hb hg hat
               rw [← Ny341.out] at ho
               have n0_ := Aside0.mk (Kd.R_over' (by (with_reducible repeat (first | apply Kd.R_alloc | apply Kd.R_drewN | apply Kd.R_drew)); exact HO_8.out) (Kd.N_typed (by (with_reducible repeat (first | apply Kd.N_alloc | apply Kd.N_drewN | apply Kd.N_drew)); exact HO_7.out)) (by decide) hg)
               have n1_ := Aside0.mk (Kd.R_over' (by (with_reducible repeat (first | apply Kd.R_alloc | apply Kd.R_drewN | apply Kd.R_drew)); exact HO_11.out) (Kd.N_typed (by (with_reducible repeat (first | apply Kd.N_alloc | apply Kd.N_drewN | apply Kd.N_drew)); exact HO_7.out)) (by decide) hg)
               have n2_ := Aside0.mk (blk_grown (g := gb313) (o := .cells #[.int .u32 ((rd_T58 l0 x19_1).f0), .int .u32 ((rd_T58 l0 x19_1).f1), .slice A312_2 ((rd_T58 l0 x19_1).f2).length c312_2, .bool ((rd_T58 l0 x19_1).f3), .int .i64 ((rd_T58 l0 x19_1).f4), .int .i64 ((rd_T58 l0 x19_1).f5), .int .i64 ((rd_T58 l0 x19_1).f6)] 58 (0, 0)) (by (with_reducible repeat (first | refine blk_drewN ?_ _ | refine blk_drew ?_ | refine blk_alloc ?_ _)); exact BK313.out) hg (Kd.N_ne HO_7.out BK313.out (by decide)))
               have n3_ := Aside0.mk (blk_grown (g := gb330) (o := .cells #[.int .i64 (wrap64 (x19_1 + 1)), .int .i64 t328, .int .i64 t329] 23 (0, 0)) (by (with_reducible repeat (first | refine blk_drewN ?_ _ | refine blk_drew ?_ | refine blk_alloc ?_ _)); exact BK330.out) hg (Kd.N_ne HO_7.out BK330.out (by decide)))
               have n4_ := Aside0.mk (blk_grown (g := gb337) (o := .cells #[.int .i64 t331, .int .u64 t332, .slice Ao45 t333.length co45] 31 (0, 0)) (by (with_reducible repeat (first | refine blk_drewN ?_ _ | refine blk_drew ?_ | refine blk_alloc ?_ _)); exact BK337.out) hg (Kd.N_away HO_7.out (fun _ hk => hk.1.1.2.2.2.2.2.2)))
               have n5_ := Aside0.mk (Kd.R_over' (by (with_reducible repeat (first | apply Kd.R_alloc | apply Kd.R_drewN | apply Kd.R_drew)); exact HO346.out) (Kd.N_typed (by (with_reducible repeat (first | apply Kd.N_alloc | apply Kd.N_drewN | apply Kd.N_drew)); exact HO_7.out)) (by decide) hg)
               have n6_ := Aside0.mk (Kd.N_afterv (ok := (fun k_ => (w.heap.size ≤ k_) ∧ some k_ ≠ (.slice Ao47 x8_1.length co47 : Value).ownBlock ∧ some k_ ≠ (.slice Ao39 x11_2.length co39 : Value).ownBlock ∧ some k_ ≠ (v345 : Value).ownBlock ∧ k_ ≠ gb313 ∧ k_ ≠ gb330 ∧ k_ ≠ gb337)) (by (with_reducible repeat (first | apply Kd.N_alloc | apply Kd.N_drewN | apply Kd.N_drew)); exact Kd.N_mono HO340.out (fun _ hk => ⟨⟨hk.1, ⟨hk.2.2.1, ⟨hk.2.2.2.1, ⟨hk.2.2.2.2.1, ⟨hk.2.2.2.2.2.1, ⟨hk.2.2.2.2.2.2.1, hk.2.2.2.2.2.2.2⟩⟩⟩⟩⟩⟩, hk.2.1⟩)) hg hat)
               have n7_ := Aside0.mk (hb)
               have n8_ := Aside0.mk (ho)
               clear HO_8
               clear HO_11
               clear BK313
               clear BK330
               clear BK337
               clear HO346
               clear HO340
               clear HB
               clear HO_7
               have HO_8 := n0_
               have HO_11 := n1_
               have BK313 := n2_
               have BK330 := n3_
               have BK337 := n4_
               have HO346 := n5_
               have HO340 := n6_
               have HB := n7_
               have HO343 := n8_
               clear n0_ n1_ n2_ n3_ n4_ n5_ n6_ n7_ n8_
               clear ho hb hg hat
               refine hK.out _ _ ⟨(blk_cell BK337.out 0).trans rfl, (blk_cell BK337.out 1).trans rfl, (blk_cell BK337.out 2).trans rfl, (blk_cell BK330.out 0).trans rfl, (blk_cell BK330.out 1).trans rfl, (blk_cell BK330.out 2).trans rfl⟩ (fun hHeld => ?_)
               clear hK K
               refine norm_ (a' := ?_) ?_ ?_
               rotate_left
               ·
                show Act.put _ (some 75) _ = _
                simp only [Act.put, List.setIfInBounds_toArray, List.set_cons_zero, List.set_cons_succ, i64_w, i32_w]
                rfl
               exact norm_ (by simp only [putAll, Act.put, List.setIfInBounds_toArray, List.set_cons_zero, List.set_cons_succ]) (hCont (.slice Ao55 y338.length co55, v342, v345) _ ⟨hHeld, (by (with_reducible repeat (first | apply Kd.N_alloc | apply Kd.N_drewN | apply Kd.N_drew)); exact Kd.N_mono HO340.out (fun _ hk => ⟨hk.1.1, ⟨hk.2, ⟨hk.1.2.2.2.1, ⟨hk.1.2.2.1, ⟨hk.1.2.1, ⟨hk.1.2.2.2.2.1, ⟨hk.1.2.2.2.2.2.1, hk.1.2.2.2.2.2.2⟩⟩⟩⟩⟩⟩⟩)), (by (with_reducible repeat (first | apply Kd.N_alloc | apply Kd.N_drewN | apply Kd.N_drew)); exact Kd.N_mono HO343.out (fun _ hk => ⟨hk.1, ⟨hk.2.2.2.1, ⟨hk.2.2.1, ⟨hk.2.1, ⟨hk.2.2.2.2.1, ⟨hk.2.2.2.2.2.1, hk.2.2.2.2.2.2⟩⟩⟩⟩⟩⟩)), (by (with_reducible repeat (first | apply Kd.R_alloc | apply Kd.R_drewN | apply Kd.R_drew)); exact Kd.R_mono HO346.out (fun _ hk => ⟨hk.1.1.1, ⟨hk.1.2, hk.2⟩⟩)), (by (with_reducible repeat (first | apply Kd.R_alloc | apply Kd.R_drewN | apply Kd.R_drew)); exact HO_11.out), (by (with_reducible repeat (first | apply Kd.R_alloc | apply Kd.R_drewN | apply Kd.R_drew)); exact Kd.R_mono HO_8.out (fun _ hk => ⟨hk.1.1, ⟨hk.2, hk.1.2⟩⟩)), (by (with_reducible repeat (first | refine blk_drewN ?_ _ | refine blk_drew ?_ | refine blk_alloc ?_ _)); exact BK313.out), (by (with_reducible repeat (first | refine blk_drewN ?_ _ | refine blk_drew ?_ | refine blk_alloc ?_ _)); exact BK330.out), (by (with_reducible repeat (first | refine blk_drewN ?_ _ | refine blk_drew ?_ | refine blk_alloc ?_ _)); exact BK337.out), (by repeat (first | (with_reducible first | exact HB.out | apply below_alloc | apply pw_below_drewN | apply below_drew1 | refine below_set ?_ GE313.out | refine below_set ?_ GE330.out | refine below_set ?_ GE337.out) | exact HB.out))⟩)
             rintro ⟨v339, v342, v345⟩ w56 ⟨hS_, h0_, h1_, h2_, h3_, h4_, h5_, h6_, h7_, h8_⟩
             have n0_ : Aside0 (Kd.N k31 31 w56 w.heap.size (fun k_ => (w.heap.size ≤ k_) ∧ some k_ ≠ (v342 : Value).ownBlock ∧ some k_ ≠ (v345 : Value).ownBlock ∧ some k_ ≠ (.slice Ao39 x11_2.length co39 : Value).ownBlock ∧ some k_ ≠ (.slice Ao47 x8_1.length co47 : Value).ownBlock ∧ k_ ≠ gb313 ∧ k_ ≠ gb330 ∧ k_ ≠ gb337) v339 y338) := ⟨h0_⟩
             have n1_ : Aside0 (Kd.N k31 31 w56 w.heap.size (fun k_ => (w.heap.size ≤ k_) ∧ some k_ ≠ (v345 : Value).ownBlock ∧ some k_ ≠ (.slice Ao39 x11_2.length co39 : Value).ownBlock ∧ some k_ ≠ (.slice Ao47 x8_1.length co47 : Value).ownBlock ∧ k_ ≠ gb313 ∧ k_ ≠ gb330 ∧ k_ ≠ gb337) v342 y341) := ⟨h1_⟩
             have n2_ : Aside0 (Kd.R k23 23 w56 w.heap.size (fun k_ => (w.heap.size ≤ k_) ∧ some k_ ≠ (.slice Ao47 x8_1.length co47 : Value).ownBlock ∧ k_ ≠ gb330) v345 y344) := ⟨h2_⟩
             have n3_ : Aside0 (Kd.R (Kd.int .i64) 3 w56 w.heap.size (fun k_ => (w.heap.size ≤ k_)) (.slice Ao39 x11_2.length co39) x11_2) := ⟨h3_⟩
             have n4_ : Aside0 (Kd.R k23 23 w56 w.heap.size (fun k_ => (w.heap.size ≤ k_) ∧ some k_ ≠ (v345 : Value).ownBlock ∧ k_ ≠ gb330) (.slice Ao47 x8_1.length co47) x8_1) := ⟨h4_⟩
             have n5_ : Aside0 (w56.heap[gb313]? = some (.cells #[.int .u32 ((rd_T58 l0 x19_1).f0), .int .u32 ((rd_T58 l0 x19_1).f1), .slice A312_2 ((rd_T58 l0 x19_1).f2).length c312_2, .bool ((rd_T58 l0 x19_1).f3), .int .i64 ((rd_T58 l0 x19_1).f4), .int .i64 ((rd_T58 l0 x19_1).f5), .int .i64 ((rd_T58 l0 x19_1).f6)] 58 (0, 0))) := ⟨h5_⟩
             have n6_ : Aside0 (w56.heap[gb330]? = some (.cells #[.int .i64 (wrap64 (x19_1 + 1)), .int .i64 t328, .int .i64 t329] 23 (0, 0))) := ⟨h6_⟩
             have n7_ : Aside0 (w56.heap[gb337]? = some (.cells #[.int .i64 t331, .int .u64 t332, .slice Ao45 t333.length co45] 31 (0, 0))) := ⟨h7_⟩
             have n8_ : Aside0 (Below w.heap.size w w56) := ⟨h8_⟩
             clear HO_7
             clear HO_8
             clear HO_11
             clear HO335
             clear BK313
             clear BK330
             clear BK337
             clear HB
             clear h0_ h1_ h2_ h3_ h4_ h5_ h6_ h7_ h8_
             have HO340 := n0_
             have HO343 := n1_
             have HO346 := n2_
             have HO_11 := n3_
             have HO_8 := n4_
             have BK313 := n5_
             have BK330 := n6_
             have BK337 := n7_
             have HB := n8_
             clear n0_ n1_ n2_ n3_ n4_ n5_ n6_ n7_ n8_
             have hHeld : w56.cell? ⟨gb337, 0, none⟩ = some (.int .i64 t331) ∧ w56.cell? ⟨gb337, 1, none⟩ = some (.int .u64 t332) ∧ w56.cell? ⟨gb337, 2, none⟩ = some (.slice Ao45 t333.length co45) ∧ w56.cell? ⟨gb330, 0, none⟩ = some (.int .i64 (wrap64 (x19_1 + 1))) ∧ w56.cell? ⟨gb330, 1, none⟩ = some (.int .i64 t328) ∧ w56.cell? ⟨gb330, 2, none⟩ = some (.int .i64 t329) := hS_
             obtain ⟨Ao58, co58, eo58⟩ := Kd.R_slice HO346.out
             (first | subst eo58 | (injection eo58 with f1_ f2_ f3_; have f4_ := f1_.symm; have f5_ := f3_.symm; clear f1_ f2_ f3_; subst f4_; subst f5_))
             refine norm_ (a' := ?_) ?_ ?_
             rotate_left
             ·
              simp only [putAll, Act.put, List.setIfInBounds_toArray, List.set_cons_zero, List.set_cons_succ]
              rfl
             refine one_ (i := 7) (N := some 79) #[true, true, true, true, true, true, true, true, false, false] rfl rfl (one_of HT_.out (by kernel_rfl)) (by decide) (fun K hK => ?_)
             refine Kd.R_append_rows_step k23 (w0 := w) w.heap.size (by rfl) (.tmp 76) (.tmp 78) 27 23 (.agg #[(.int .i64 0), (.int .i64 0), (.int .i64 0)]) 24 rfl Tryd.underlying27 info23 rfl (by decide) (by omega) (.slice Ao47 x8_1.length co47) x8_1 y344 _ _ _ (fun k_ => (w.heap.size ≤ k_) ∧ some k_ ≠ (.slice Ao58 y344.length co58 : Value).ownBlock ∧ k_ ≠ gb330) (fun _ => False) rfl rfl ?aO ?aR (fun _ _ h => h) (fun _ h => h.elim) ?aF ?aB ?aS ?aL ?_
             (case aR => repeat (first | exact (Kd.R_reads' HO346.out).2.2 | (with_reducible refine Kd.C_alloc ?_ _) | (with_reducible refine Kd.C_drewN ?_ _) | (with_reducible refine Kd.C_drew ?_)))
             (case aB => exact (by repeat (first | (with_reducible first | exact HB.out | apply below_alloc | apply pw_below_drewN | apply below_drew1 | refine below_set ?_ GE313.out | refine below_set ?_ GE330.out | refine below_set ?_ GE337.out) | exact HB.out)))
             (case aF => exact (fun k_ hk => ⟨(Nat.le_trans (below_size (by repeat (first | (with_reducible first | exact HB.out | apply below_alloc | apply pw_below_drewN | apply below_drew1 | refine below_set ?_ GE313.out | refine below_set ?_ GE330.out | refine below_set ?_ GE337.out) | exact HB.out))) hk), Kd.fresh' (Kd.R_lt (by (with_reducible repeat (first | apply Kd.R_alloc | apply Kd.R_drewN | apply Kd.R_drew)); exact HO346.out)) k_ hk, Kd.freshB (g := gb330) (o := .cells #[.int .i64 (wrap64 (x19_1 + 1)), .int .i64 t328, .int .i64 t329] 23 (0, 0)) (by (with_reducible repeat (first | refine blk_drewN ?_ _ | refine blk_drew ?_ | refine blk_alloc ?_ _)); exact BK330.out) k_ hk⟩))
             (case aO => exact (by (with_reducible repeat (first | apply Kd.R_alloc | apply Kd.R_drewN | apply Kd.R_drew)); exact HO_8.out))
             (case aS => exact (below_size (by repeat (first | (with_reducible first | exact HB.out | apply below_alloc | apply pw_below_drewN | apply below_drew1 | refine below_set ?_ GE313.out | refine below_set ?_ GE330.out | refine below_set ?_ GE337.out) | exact HB.out))))
             (case aL => have := LMc30.out; omega)
             intro v348 w57 ho hb hg hat
             rw [← Ny347.out] at ho
             have n0_ := Aside0.mk (Kd.R_over' (by (with_reducible repeat (first | apply Kd.R_alloc | apply Kd.R_drewN | apply Kd.R_drew)); exact HO_11.out) (Kd.R_typed (by (with_reducible repeat (first | apply Kd.R_alloc | apply Kd.R_drewN | apply Kd.R_drew)); exact HO_8.out)) (by decide) hg)
             have n1_ := Aside0.mk (blk_grown (g := gb313) (o := .cells #[.int .u32 ((rd_T58 l0 x19_1).f0), .int .u32 ((rd_T58 l0 x19_1).f1), .slice A312_2 ((rd_T58 l0 x19_1).f2).length c312_2, .bool ((rd_T58 l0 x19_1).f3), .int .i64 ((rd_T58 l0 x19_1).f4), .int .i64 ((rd_T58 l0 x19_1).f5), .int .i64 ((rd_T58 l0 x19_1).f6)] 58 (0, 0)) (by (with_reducible repeat (first | refine blk_drewN ?_ _ | refine blk_drew ?_ | refine blk_alloc ?_ _)); exact BK313.out) hg (Kd.R_ne HO_8.out BK313.out (by decide)))
             have n2_ := Aside0.mk (blk_grown (g := gb330) (o := .cells #[.int .i64 (wrap64 (x19_1 + 1)), .int .i64 t328, .int .i64 t329] 23 (0, 0)) (by (with_reducible repeat (first | refine blk_drewN ?_ _ | refine blk_drew ?_ | refine blk_alloc ?_ _)); exact BK330.out) hg (Kd.R_away HO_8.out (fun _ hk => hk.2.2)))
             have n3_ := Aside0.mk (blk_grown (g := gb337) (o := .cells #[.int .i64 t331, .int .u64 t332, .slice Ao45 t333.length co45] 31 (0, 0)) (by (with_reducible repeat (first | refine blk_drewN ?_ _ | refine blk_drew ?_ | refine blk_alloc ?_ _)); exact BK337.out) hg (Kd.R_ne HO_8.out BK337.out (by decide)))
             have n4_ := Aside0.mk (Kd.N_afterv (ok := (fun k_ => (w.heap.size ≤ k_) ∧ some k_ ≠ (.slice Ao39 x11_2.length co39 : Value).ownBlock ∧ some k_ ≠ (v342 : Value).ownBlock ∧ some k_ ≠ (.slice Ao58 y344.length co58 : Value).ownBlock ∧ k_ ≠ gb313 ∧ k_ ≠ gb330 ∧ k_ ≠ gb337)) (by (with_reducible repeat (first | apply Kd.N_alloc | apply Kd.N_drewN | apply Kd.N_drew)); exact Kd.N_mono HO340.out (fun _ hk => ⟨⟨hk.1, ⟨hk.2.2.2.1, ⟨hk.2.1, ⟨hk.2.2.1, ⟨hk.2.2.2.2.2.1, ⟨hk.2.2.2.2.2.2.1, hk.2.2.2.2.2.2.2⟩⟩⟩⟩⟩⟩, hk.2.2.2.2.1⟩)) hg hat)
             have n5_ := Aside0.mk (Kd.N_afterv (ok := (fun k_ => (w.heap.size ≤ k_) ∧ some k_ ≠ (.slice Ao39 x11_2.length co39 : Value).ownBlock ∧ some k_ ≠ (.slice Ao58 y344.length co58 : Value).ownBlock ∧ k_ ≠ gb313 ∧ k_ ≠ gb330 ∧ k_ ≠ gb337)) (by (with_reducible repeat (first | apply Kd.N_alloc | apply Kd.N_drewN | apply Kd.N_drew)); exact Kd.N_mono HO343.out (fun _ hk => ⟨⟨hk.1, ⟨hk.2.2.1, ⟨hk.2.1, ⟨hk.2.2.2.2.1, ⟨hk.2.2.2.2.2.1, hk.2.2.2.2.2.2⟩⟩⟩⟩⟩, hk.2.2.2.1⟩)) hg hat)
             have n6_ := Aside0.mk (Kd.R_after (ok := (fun k_ => (w.heap.size ≤ k_) ∧ k_ ≠ gb330)) (by (with_reducible repeat (first | apply Kd.R_alloc | apply Kd.R_drewN | apply Kd.R_drew)); exact Kd.R_mono HO346.out (fun _ hk => ⟨⟨hk.1, hk.2.2⟩, hk.2.1⟩)) hg hat)
             have n7_ := Aside0.mk (hb)
             have n8_ := Aside0.mk (ho)
             clear HO_11
             clear BK313
             clear BK330
             clear BK337
             clear HO340
             clear HO343
             clear HO346
             clear HB
             clear HO_8
             have HO_11 := n0_
             have BK313 := n1_
             have BK330 := n2_
             have BK337 := n3_
             have HO340 := n4_
             have HO343 := n5_
             have HO346 := n6_
             have HB := n7_
             have HO349 := n8_
             clear n0_ n1_ n2_ n3_ n4_ n5_ n6_ n7_ n8_
             clear ho hb hg hat
             refine hK.out _ _ ⟨(blk_cell BK337.out 0).trans rfl, (blk_cell BK337.out 1).trans rfl, (blk_cell BK337.out 2).trans rfl, (blk_cell BK330.out 0).trans rfl, (blk_cell BK330.out 1).trans rfl, (blk_cell BK330.out 2).trans rfl⟩ (fun hHeld => ?_)
             clear hK K
             refine norm_ (a' := ?_) ?_ ?_
             rotate_left
             ·
              show Act.put _ (some 79) _ = _
              simp only [Act.put, List.setIfInBounds_toArray, List.set_cons_zero, List.set_cons_succ, i64_w, i32_w]
              rfl
             refine pure_ (i := 8) (N := some 7) (v := ?_) (a' := ?_) #[true, true, true, true, true, true, true, true, true, false] rfl rfl (any_of HT_.out (by kernel_rfl)) (fun _ _ _ h => h) (Or.inl ⟨by rfl, ?_⟩) ?_ ?_
             rotate_left
             ·
              intro w'
              go_simp
              with_reducible rfl
             rotate_left
             ·
              simp only [Act.put, List.setIfInBounds_toArray, List.set_cons_zero, List.set_cons_succ, i64_w, i32_w]
              rfl
             refine pure_ (i := 9) (N := some 8) (v := ?_) (a' := ?_) #[true, true, true, true, true, true, true, true, true, true] rfl rfl (any_of HT_.out (by kernel_rfl)) (fun _ _ _ h => h) (Or.inl ⟨by rfl, ?_⟩) ?_ ?_
             rotate_left
             ·
              intro w'
              go_simp
              with_reducible rfl
             rotate_left
             ·
              simp only [Act.put, List.setIfInBounds_toArray, List.set_cons_zero, List.set_cons_succ, i64_w, i32_w]
              rfl
             refine done_ (done_of HT_.out (by kernel_rfl)) ?_
             try go_wp2
             go_roundg k2
             case measure => have := HK1.out; have := HK2.out; omega
             case rel => exact ⟨(y341), (y347), (wrap64 (x19_1 + 1)), (by first | rfl | (simp; done) | (simp [*]; done)), H', ⟨by have := HK1.out; have := HK2.out; omega⟩, ⟨by (with_reducible repeat (first | apply Kd.N_alloc | apply Kd.N_drewN | apply Kd.N_drew)); exact Kd.N_mono HO343.out (fun _ hk => ⟨hk.1.1, hk.2⟩)⟩, ⟨by (with_reducible repeat (first | apply Kd.R_alloc | apply Kd.R_drewN | apply Kd.R_drew)); exact Kd.R_mono HO349.out (fun _ hk => hk.1)⟩, ⟨by repeat (first | (with_reducible first | exact HB.out | apply below_alloc | apply pw_below_drewN | apply below_drew1 | refine below_set ?_ GE313.out | refine below_set ?_ GE330.out | refine below_set ?_ GE337.out) | exact HB.out)⟩⟩
            ·
             rw [if_neg c30] at H
             exact absurd H (by simp)
           ·
            rw [if_neg c29] at H
            exact absurd H (by simp)
          ·
           rw [if_neg c28] at H
           have c28b0 : ((t333.length : Int) == (l0.length : Int)) = false := beq_eq_false_iff_ne.mpr c28
           have c28b1 : ((t333.length : Int) != (l0.length : Int)) = true := bne_iff_ne.mpr c28
           have c28b2 : (t333.length == l0.length) = false := by first | simpa using c28 | (simp at c28 ⊢; omega)
           simp only [Option.some.injEq, Prod.mk.injEq] at H
           obtain ⟨rfl, rfl, rfl⟩ := H
           try go_wp2
           have n0_ := Aside0.mk (Kd.N_drew HO_7.out)
           have n1_ := Aside0.mk (Kd.R_drew HO_8.out)
           have n2_ := Aside0.mk (Kd.R_drew HO_11.out)
           have n3_ := Aside0.mk (blk_drew BK313.out)
           have n4_ := Aside0.mk (below_drew1 HB.out)
           clear HO_7
           clear HO_8
           clear HO_11
           clear BK313
           clear HB
           have HO_7 := n0_
           have HO_8 := n1_
           have HO_11 := n2_
           have BK313 := n3_
           have HB := n4_
           clear n0_ n1_ n2_ n3_ n4_
           refine start_ (n := 11) (S := fun w' => w'.cell? ⟨gb313, 0, none⟩ = some (.int .u32 ((rd_T58 l0 x19_1).f0)) ∧ w'.cell? ⟨gb313, 1, none⟩ = some (.int .u32 ((rd_T58 l0 x19_1).f1)) ∧ w'.cell? ⟨gb313, 2, none⟩ = some (.slice A312_2 ((rd_T58 l0 x19_1).f2).length c312_2) ∧ w'.cell? ⟨gb313, 3, none⟩ = some (.bool ((rd_T58 l0 x19_1).f3)) ∧ w'.cell? ⟨gb313, 4, none⟩ = some (.int .i64 ((rd_T58 l0 x19_1).f4)) ∧ w'.cell? ⟨gb313, 5, none⟩ = some (.int .i64 ((rd_T58 l0 x19_1).f5)) ∧ w'.cell? ⟨gb313, 6, none⟩ = some (.int .i64 ((rd_T58 l0 x19_1).f6))) (ds := []) #[false, false, false, false, false, false, false, false, false, false, false] (by kernel_rfl) rfl rfl ⟨(blk_cell BK313.out 0).trans rfl, (blk_cell BK313.out 1).trans rfl, (blk_cell BK313.out 2).trans rfl, (blk_cell BK313.out 3).trans rfl, (blk_cell BK313.out 4).trans rfl, (blk_cell BK313.out 5).trans rfl, (blk_cell BK313.out 6).trans rfl⟩ (fun hHeld => ?_); refine with_tabW cohousinglaw22_dealt.tab14 cohousinglaw22_dealt.bits14 (fun HT_ HW_ => ?_)
           generalize wr.drew = w59 at HO_7 HO_8 HO_11 BK313 HB hHeld ⊢
           refine pure_ (i := 0) (N := some 45) (v := ?_) (a' := ?_) #[true, false, false, false, false, false, false, false, false, false, false] rfl rfl (any_of HT_.out (by kernel_rfl)) (fun _ _ _ h => h) (Or.inl ⟨by rfl, ?_⟩) ?_ ?_
           rotate_left
           ·
            intro w'
            go_simp
            with_reducible rfl
           rotate_left
           ·
            simp only [Act.put, List.setIfInBounds_toArray, List.set_cons_zero, List.set_cons_succ, i64_w, i32_w]
            rfl
           refine pure_ (i := 1) (N := some 46) (v := ?_) (a' := ?_) #[true, true, false, false, false, false, false, false, false, false, false] rfl rfl (any_of HT_.out (by kernel_rfl)) (fun _ _ _ h => h) (Or.inl ⟨by rfl, ?_⟩) ?_ ?_
           rotate_left
           ·
            intro w'
            go_simp
            with_reducible rfl
           rotate_left
           ·
            simp only [Act.put, List.setIfInBounds_toArray, List.set_cons_zero, List.set_cons_succ, i64_w, i32_w]
            rfl
           refine pure_ (i := 2) (N := some 47) (v := ?_) (a' := ?_) #[true, true, true, false, false, false, false, false, false, false, false] rfl rfl (any_of HT_.out (by kernel_rfl)) (fun _ _ _ h => h) (Or.inl ⟨by rfl, ?_⟩) ?_ ?_
           rotate_left
           ·
            intro w'
            go_simp
            with_reducible rfl
           rotate_left
           ·
            simp only [Act.put, List.setIfInBounds_toArray, List.set_cons_zero, List.set_cons_succ, i64_w, i32_w]
            rfl
           refine pure_ (i := 5) (N := some 50) (v := ?_) (a' := ?_) #[true, true, true, false, false, true, false, false, false, false, false] rfl rfl (any_of HT_.out (by kernel_rfl)) (fun _ _ _ h => h) (Or.inl ⟨by rfl, ?_⟩) ?_ ?_
           rotate_left
           ·
            intro w'
            go_simp
            with_reducible rfl
           rotate_left
           ·
            simp only [Act.put, List.setIfInBounds_toArray, List.set_cons_zero, List.set_cons_succ, i64_w, i32_w]
            rfl
           refine take_ (i := 3) (N := some 48) (v := ?_) (a' := ?_) #[true, true, true, true, false, true, false, false, false, false, false] rfl rfl (take_ofW HT_.out HW_.out (by kernel_rfl)) (fun _ _ _ h => h) (Or.inl ⟨by rfl, ?_⟩) hHeld ?_ ?_
           rotate_left
           ·
            rintro w' ⟨s0, s1, s2, s3, s4, s5, s6⟩
            go_simp
            with_reducible rfl
           rotate_left
           ·
            simp only [Act.put, List.setIfInBounds_toArray, List.set_cons_zero, List.set_cons_succ, i64_w, i32_w]
            rfl
           refine take_ (i := 6) (N := some 51) (v := ?_) (a' := ?_) #[true, true, true, true, false, true, true, false, false, false, false] rfl rfl (take_ofW HT_.out HW_.out (by kernel_rfl)) (fun _ _ _ h => h) (Or.inl ⟨by rfl, ?_⟩) hHeld ?_ ?_
           rotate_left
           ·
            rintro w' ⟨s0, s1, s2, s3, s4, s5, s6⟩
            go_simp
            with_reducible rfl
           rotate_left
           ·
            simp only [Act.put, List.setIfInBounds_toArray, List.set_cons_zero, List.set_cons_succ, i64_w, i32_w]
            rfl
           refine join_ (σ := Nat) 1 #[true, true, true, true, true, true, true, true, true, true, false] (fun s_ => [(49, .int .i64 t328), (52, .int .i64 t329), (14, .pointer (some ⟨s_, 0, none⟩)), (53, .agg #[.int .i64 (wrap64 (x19_1 + 1)), .int .i64 t328, .int .i64 t329])]) (fun s_ w' => (w'.cell? ⟨gb313, 0, none⟩ = some (.int .u32 ((rd_T58 l0 x19_1).f0)) ∧ w'.cell? ⟨gb313, 1, none⟩ = some (.int .u32 ((rd_T58 l0 x19_1).f1)) ∧ w'.cell? ⟨gb313, 2, none⟩ = some (.slice A312_2 ((rd_T58 l0 x19_1).f2).length c312_2) ∧ w'.cell? ⟨gb313, 3, none⟩ = some (.bool ((rd_T58 l0 x19_1).f3)) ∧ w'.cell? ⟨gb313, 4, none⟩ = some (.int .i64 ((rd_T58 l0 x19_1).f4)) ∧ w'.cell? ⟨gb313, 5, none⟩ = some (.int .i64 ((rd_T58 l0 x19_1).f5)) ∧ w'.cell? ⟨gb313, 6, none⟩ = some (.int .i64 ((rd_T58 l0 x19_1).f6))) ∧ (Kd.R (Kd.int .i64) 3 w' w.heap.size (fun k_ => (w.heap.size ≤ k_)) u11 x11_2) ∧ (Kd.N k31 31 w' w.heap.size (fun k_ => (w.heap.size ≤ k_) ∧ some k_ ≠ (u11 : Value).ownBlock ∧ some k_ ≠ (u8 : Value).ownBlock ∧ k_ ≠ gb313 ∧ k_ ≠ s_) u7 x7_1) ∧ (Kd.R k23 23 w' w.heap.size (fun k_ => (w.heap.size ≤ k_) ∧ k_ ≠ s_) u8 x8_1) ∧ (w'.heap[gb313]? = some (.cells #[.int .u32 ((rd_T58 l0 x19_1).f0), .int .u32 ((rd_T58 l0 x19_1).f1), .slice A312_2 ((rd_T58 l0 x19_1).f2).length c312_2, .bool ((rd_T58 l0 x19_1).f3), .int .i64 ((rd_T58 l0 x19_1).f4), .int .i64 ((rd_T58 l0 x19_1).f5), .int .i64 ((rd_T58 l0 x19_1).f6)] 58 (0, 0))) ∧ (w'.heap[s_]? = some (.cells #[.int .i64 0, .int .i64 0, .int .i64 0] 23 (0, 0))) ∧ (w.heap.size ≤ s_) ∧ (w.heap.size ≤ s_) ∧ (gb313 ≠ s_) ∧ (s_ ≠ gb313) ∧ (Below w.heap.size w w')) ?_ ?_
           rotate_left
           ·
            intro hCont
            refine two_ (i := 4) (j := 9) (Ni := some 49) (Nj := some 14) #[true, true, true, true, true, true, true, false, false, false, false] #[true, true, true, true, false, true, true, false, false, true, false] rfl rfl rfl rfl (two_of HT_.out (by kernel_rfl)) (by decide) (by decide) (fun K hK => ?_) (fun K hK => ?_)
            ·
             skip
             refine goes_ Tryd.func47 (by kernel_rfl) rfl #[.int .u32 ((rd_T58 l0 x19_1).f0)] (by rfl) rfl rfl (by (try simp only [List.map_toArray, List.map_cons, List.map_nil]); first | done | rfl | (simp only [List.length_drop, List.length_take]; rfl)) ?_
             with_reducible refine (cohousinglaw22_residue.calls ((rd_T58 l0 x19_1).f0) t328 _ A24.out).mono ?_
             rintro e w' ⟨rfl, ⟨nd, rfl⟩⟩
             refine ⟨_, rfl, ?_⟩
             refine hK.out _ _ ⟨(blk_cell BK313.out 0).trans rfl, (blk_cell BK313.out 1).trans rfl, (blk_cell BK313.out 2).trans rfl, (blk_cell BK313.out 3).trans rfl, (blk_cell BK313.out 4).trans rfl, (blk_cell BK313.out 5).trans rfl, (blk_cell BK313.out 6).trans rfl⟩ (fun hHeld => ?_)
             clear hK K
             refine norm_ (a' := ?_) ?_ ?_
             rotate_left
             ·
              show Act.put _ (some 49) _ = _
              simp only [Act.put, List.setIfInBounds_toArray, List.set_cons_zero, List.set_cons_succ, i64_w, i32_w]
              rfl
             refine two_ (i := 7) (j := 9) (Ni := some 52) (Nj := some 14) #[true, true, true, true, true, true, true, true, false, false, false] #[true, true, true, true, true, true, true, false, false, true, false] rfl rfl rfl rfl (two_of HT_.out (by kernel_rfl)) (by decide) (by decide) (fun K hK => ?_) (fun K hK => ?_)
             ·
              skip
              refine goes_ Tryd.func47 (by kernel_rfl) rfl #[.int .u32 ((rd_T58 l0 x19_1).f1)] (by rfl) rfl rfl (by (try simp only [List.map_toArray, List.map_cons, List.map_nil]); first | done | rfl | (simp only [List.length_drop, List.length_take]; rfl)) ?_
              with_reducible refine (cohousinglaw22_residue.calls ((rd_T58 l0 x19_1).f1) t329 _ A25.out).mono ?_
              rintro e w' ⟨rfl, ⟨nd, rfl⟩⟩
              refine ⟨_, rfl, ?_⟩
              refine hK.out _ _ ⟨(blk_cell BK313.out 0).trans rfl, (blk_cell BK313.out 1).trans rfl, (blk_cell BK313.out 2).trans rfl, (blk_cell BK313.out 3).trans rfl, (blk_cell BK313.out 4).trans rfl, (blk_cell BK313.out 5).trans rfl, (blk_cell BK313.out 6).trans rfl⟩ (fun hHeld => ?_)
              clear hK K
              refine norm_ (a' := ?_) ?_ ?_
              rotate_left
              ·
               show Act.put _ (some 52) _ = _
               simp only [Act.put, List.setIfInBounds_toArray, List.set_cons_zero, List.set_cons_succ, i64_w, i32_w]
               rfl
              refine pure_ (i := 8) (N := some 53) (v := ?_) (a' := ?_) #[true, true, true, true, true, true, true, true, true, false, false] rfl rfl (any_of HT_.out (by kernel_rfl)) (fun _ _ _ h => h) (Or.inl ⟨by rfl, ?_⟩) ?_ ?_
              rotate_left
              ·
               intro w'
               go_simp
               with_reducible rfl
              rotate_left
              ·
               simp only [Act.put, List.setIfInBounds_toArray, List.set_cons_zero, List.set_cons_succ, i64_w, i32_w]
               rfl
              refine one_ (i := 9) (N := some 14) #[true, true, true, true, true, true, true, true, true, true, false] rfl rfl (one_of HT_.out (by kernel_rfl)) (by decide) (fun K hK => ?_)
              refine box_step ?hg (N := 14) ?hd (cs := #[.int .i64 0, .int .i64 0, .int .i64 0]) (t := 23) ?hr ?_; (case hd => rfl); (case hg => rfl); (case hr => first | (go_simp; done) | (go_simp; rfl))
              intro gb330 hg w60 hbox hb
              have n0_ := Aside0.mk (Kd.N_below (Kd.N_elderB (by (with_reducible repeat (first | apply Kd.N_alloc | apply Kd.N_drewN | apply Kd.N_drew)); exact HO_7.out) gb330 (Nat.le_of_eq hg.symm)) hb)
              have n1_ := Aside0.mk (Kd.R_below (Kd.R_elderB (by (with_reducible repeat (first | apply Kd.R_alloc | apply Kd.R_drewN | apply Kd.R_drew)); exact HO_8.out) gb330 (Nat.le_of_eq hg.symm)) hb)
              have n2_ := Aside0.mk (Kd.R_below (by (with_reducible repeat (first | apply Kd.R_alloc | apply Kd.R_drewN | apply Kd.R_drew)); exact HO_11.out) hb)
              have n3_ := Aside0.mk (blk_below (g := gb313) (o := .cells #[.int .u32 ((rd_T58 l0 x19_1).f0), .int .u32 ((rd_T58 l0 x19_1).f1), .slice A312_2 ((rd_T58 l0 x19_1).f2).length c312_2, .bool ((rd_T58 l0 x19_1).f3), .int .i64 ((rd_T58 l0 x19_1).f4), .int .i64 ((rd_T58 l0 x19_1).f5), .int .i64 ((rd_T58 l0 x19_1).f6)] 58 (0, 0)) (by (with_reducible repeat (first | refine blk_drewN ?_ _ | refine blk_drew ?_ | refine blk_alloc ?_ _)); exact BK313.out) hb)
              have n4_ := Aside0.mk (below_step (by repeat (first | (with_reducible first | exact HB.out | apply below_alloc | apply pw_below_drewN | apply below_drew1 | refine below_set ?_ GE313.out) | exact HB.out)) hb)
              have n5_ := Aside0.mk (hbox)
              have n6_ := Aside0.mk ((by rw [hg]; exact (below_size (by repeat (first | (with_reducible first | exact HB.out | apply below_alloc | apply pw_below_drewN | apply below_drew1 | refine below_set ?_ GE313.out) | exact HB.out))) : w.heap.size ≤ gb330))
              have n7_ := Aside0.mk ((by rw [hg]; exact (below_size (by repeat (first | (with_reducible first | exact HB.out | apply below_alloc | apply pw_below_drewN | apply below_drew1 | refine below_set ?_ GE313.out) | exact HB.out))) : w.heap.size ≤ gb330))
              have n8_ := Aside0.mk ((by rw [hg]; exact Nat.ne_of_lt (blk_lt (g := gb313) (o := .cells #[.int .u32 ((rd_T58 l0 x19_1).f0), .int .u32 ((rd_T58 l0 x19_1).f1), .slice A312_2 ((rd_T58 l0 x19_1).f2).length c312_2, .bool ((rd_T58 l0 x19_1).f3), .int .i64 ((rd_T58 l0 x19_1).f4), .int .i64 ((rd_T58 l0 x19_1).f5), .int .i64 ((rd_T58 l0 x19_1).f6)] 58 (0, 0)) (by (with_reducible repeat (first | refine blk_drewN ?_ _ | refine blk_drew ?_ | refine blk_alloc ?_ _)); exact BK313.out)) : gb313 ≠ gb330))
              have n9_ := Aside0.mk ((by rw [hg]; exact Nat.ne_of_gt (blk_lt (g := gb313) (o := .cells #[.int .u32 ((rd_T58 l0 x19_1).f0), .int .u32 ((rd_T58 l0 x19_1).f1), .slice A312_2 ((rd_T58 l0 x19_1).f2).length c312_2, .bool ((rd_T58 l0 x19_1).f3), .int .i64 ((rd_T58 l0 x19_1).f4), .int .i64 ((rd_T58 l0 x19_1).f5), .int .i64 ((rd_T58 l0 x19_1).f6)] 58 (0, 0)) (by (with_reducible repeat (first | refine blk_drewN ?_ _ | refine blk_drew ?_ | refine blk_alloc ?_ _)); exact BK313.out)) : gb330 ≠ gb313))
              clear HO_7
              clear HO_8
              clear HO_11
              clear BK313
              clear HB
              have HO_7 := n0_
              have HO_8 := n1_
              have HO_11 := n2_
              have BK313 := n3_
              have HB := n4_
              have BK330 := n5_
              have GW330 := n6_
              have GE330 := n7_
              have NB313_330 := n8_
              have NB330_313 := n9_
              clear n0_ n1_ n2_ n3_ n4_ n5_ n6_ n7_ n8_ n9_
              clear hb hbox hg
              refine hK.out _ _ ⟨(blk_cell BK313.out 0).trans rfl, (blk_cell BK313.out 1).trans rfl, (blk_cell BK313.out 2).trans rfl, (blk_cell BK313.out 3).trans rfl, (blk_cell BK313.out 4).trans rfl, (blk_cell BK313.out 5).trans rfl, (blk_cell BK313.out 6).trans rfl⟩ (fun hHeld => ?_)
              clear hK K
              refine norm_ (a' := ?_) ?_ ?_
              rotate_left
              ·
               show Act.put _ (some 14) _ = _
               simp only [Act.put, List.setIfInBounds_toArray, List.set_cons_zero, List.set_cons_succ, i64_w, i32_w]
               rfl
              exact norm_ (by simp only [putAll, Act.put, List.setIfInBounds_toArray, List.set_cons_zero, List.set_cons_succ]) (hCont (gb330) _ ⟨hHeld, (by (with_reducible repeat (first | apply Kd.R_alloc | apply Kd.R_drewN | apply Kd.R_drew)); exact HO_11.out), (by (with_reducible repeat (first | apply Kd.N_alloc | apply Kd.N_drewN | apply Kd.N_drew)); exact Kd.N_mono HO_7.out (fun _ hk => ⟨hk.1.1, ⟨hk.1.2.2.1, ⟨hk.1.2.1, ⟨hk.1.2.2.2, hk.2⟩⟩⟩⟩)), (by (with_reducible repeat (first | apply Kd.R_alloc | apply Kd.R_drewN | apply Kd.R_drew)); exact HO_8.out), (by (with_reducible repeat (first | refine blk_drewN ?_ _ | refine blk_drew ?_ | refine blk_alloc ?_ _)); exact BK313.out), (by (with_reducible repeat (first | refine blk_drewN ?_ _ | refine blk_drew ?_ | refine blk_alloc ?_ _)); exact BK330.out), GW330.out, GE330.out, NB313_330.out, NB330_313.out, (by repeat (first | (with_reducible first | exact HB.out | apply below_alloc | apply pw_below_drewN | apply below_drew1 | refine below_set ?_ GE313.out | refine below_set ?_ GE330.out) | exact HB.out))⟩)
             ·
              skip
              refine box_step ?hg (N := 14) ?hd (cs := #[.int .i64 0, .int .i64 0, .int .i64 0]) (t := 23) ?hr ?_; (case hd => rfl); (case hg => rfl); (case hr => first | (go_simp; done) | (go_simp; rfl))
              intro gb330 hg w60 hbox hb
              have n0_ := Aside0.mk (Kd.N_below (Kd.N_elderB (by (with_reducible repeat (first | apply Kd.N_alloc | apply Kd.N_drewN | apply Kd.N_drew)); exact HO_7.out) gb330 (Nat.le_of_eq hg.symm)) hb)
              have n1_ := Aside0.mk (Kd.R_below (Kd.R_elderB (by (with_reducible repeat (first | apply Kd.R_alloc | apply Kd.R_drewN | apply Kd.R_drew)); exact HO_8.out) gb330 (Nat.le_of_eq hg.symm)) hb)
              have n2_ := Aside0.mk (Kd.R_below (by (with_reducible repeat (first | apply Kd.R_alloc | apply Kd.R_drewN | apply Kd.R_drew)); exact HO_11.out) hb)
              have n3_ := Aside0.mk (blk_below (g := gb313) (o := .cells #[.int .u32 ((rd_T58 l0 x19_1).f0), .int .u32 ((rd_T58 l0 x19_1).f1), .slice A312_2 ((rd_T58 l0 x19_1).f2).length c312_2, .bool ((rd_T58 l0 x19_1).f3), .int .i64 ((rd_T58 l0 x19_1).f4), .int .i64 ((rd_T58 l0 x19_1).f5), .int .i64 ((rd_T58 l0 x19_1).f6)] 58 (0, 0)) (by (with_reducible repeat (first | refine blk_drewN ?_ _ | refine blk_drew ?_ | refine blk_alloc ?_ _)); exact BK313.out) hb)
              have n4_ := Aside0.mk (below_step (by repeat (first | (with_reducible first | exact HB.out | apply below_alloc | apply pw_below_drewN | apply below_drew1 | refine below_set ?_ GE313.out) | exact HB.out)) hb)
              have n5_ := Aside0.mk (hbox)
              have n6_ := Aside0.mk ((by rw [hg]; exact (below_size (by repeat (first | (with_reducible first | exact HB.out | apply below_alloc | apply pw_below_drewN | apply below_drew1 | refine below_set ?_ GE313.out) | exact HB.out))) : w.heap.size ≤ gb330))
              have n7_ := Aside0.mk ((by rw [hg]; exact (below_size (by repeat (first | (with_reducible first | exact HB.out | apply below_alloc | apply pw_below_drewN | apply below_drew1 | refine below_set ?_ GE313.out) | exact HB.out))) : w.heap.size ≤ gb330))
              have n8_ := Aside0.mk ((by rw [hg]; exact Nat.ne_of_lt (blk_lt (g := gb313) (o := .cells #[.int .u32 ((rd_T58 l0 x19_1).f0), .int .u32 ((rd_T58 l0 x19_1).f1), .slice A312_2 ((rd_T58 l0 x19_1).f2).length c312_2, .bool ((rd_T58 l0 x19_1).f3), .int .i64 ((rd_T58 l0 x19_1).f4), .int .i64 ((rd_T58 l0 x19_1).f5), .int .i64 ((rd_T58 l0 x19_1).f6)] 58 (0, 0)) (by (with_reducible repeat (first | refine blk_drewN ?_ _ | refine blk_drew ?_ | refine blk_alloc ?_ _)); exact BK313.out)) : gb313 ≠ gb330))
              have n9_ := Aside0.mk ((by rw [hg]; exact Nat.ne_of_gt (blk_lt (g := gb313) (o := .cells #[.int .u32 ((rd_T58 l0 x19_1).f0), .int .u32 ((rd_T58 l0 x19_1).f1), .slice A312_2 ((rd_T58 l0 x19_1).f2).length c312_2, .bool ((rd_T58 l0 x19_1).f3), .int .i64 ((rd_T58 l0 x19_1).f4), .int .i64 ((rd_T58 l0 x19_1).f5), .int .i64 ((rd_T58 l0 x19_1).f6)] 58 (0, 0)) (by (with_reducible repeat (first | refine blk_drewN ?_ _ | refine blk_drew ?_ | refine blk_alloc ?_ _)); exact BK313.out)) : gb330 ≠ gb313))
              clear HO_7
              clear HO_8
              clear HO_11
              clear BK313
              clear HB
              have HO_7 := n0_
              have HO_8 := n1_
              have HO_11 := n2_
              have BK313 := n3_
              have HB := n4_
              have BK330 := n5_
              have GW330 := n6_
              have GE330 := n7_
              have NB313_330 := n8_
              have NB330_313 := n9_
              clear n0_ n1_ n2_ n3_ n4_ n5_ n6_ n7_ n8_ n9_
              clear hb hbox hg
              refine hK.out _ _ ⟨(blk_cell BK313.out 0).trans rfl, (blk_cell BK313.out 1).trans rfl, (blk_cell BK313.out 2).trans rfl, (blk_cell BK313.out 3).trans rfl, (blk_cell BK313.out 4).trans rfl, (blk_cell BK313.out 5).trans rfl, (blk_cell BK313.out 6).trans rfl⟩ (fun hHeld => ?_)
              clear hK K
              refine norm_ (a' := ?_) ?_ ?_
              rotate_left
              ·
               show Act.put _ (some 14) _ = _
               simp only [Act.put, List.setIfInBounds_toArray, List.set_cons_zero, List.set_cons_succ, i64_w, i32_w]
               rfl
              refine one_ (i := 7) (N := some 52) #[true, true, true, true, true, true, true, true, false, true, false] rfl rfl (one_of HT_.out (by kernel_rfl)) (by decide) (fun K hK => ?_)
              refine goes_ Tryd.func47 (by kernel_rfl) rfl #[.int .u32 ((rd_T58 l0 x19_1).f1)] (by rfl) rfl rfl (by (try simp only [List.map_toArray, List.map_cons, List.map_nil]); first | done | rfl | (simp only [List.length_drop, List.length_take]; rfl)) ?_
              with_reducible refine (cohousinglaw22_residue.calls ((rd_T58 l0 x19_1).f1) t329 _ A25.out).mono ?_
              rintro e w' ⟨rfl, ⟨nd, rfl⟩⟩
              refine ⟨_, rfl, ?_⟩
              refine hK.out _ _ ⟨(blk_cell BK313.out 0).trans rfl, (blk_cell BK313.out 1).trans rfl, (blk_cell BK313.out 2).trans rfl, (blk_cell BK313.out 3).trans rfl, (blk_cell BK313.out 4).trans rfl, (blk_cell BK313.out 5).trans rfl, (blk_cell BK313.out 6).trans rfl⟩ (fun hHeld => ?_)
              clear hK K
              refine norm_ (a' := ?_) ?_ ?_
              rotate_left
              ·
               show Act.put _ (some 52) _ = _
               simp only [Act.put, List.setIfInBounds_toArray, List.set_cons_zero, List.set_cons_succ, i64_w, i32_w]
               rfl
              refine pure_ (i := 8) (N := some 53) (v := ?_) (a' := ?_) #[true, true, true, true, true, true, true, true, true, true, false] rfl rfl (any_of HT_.out (by kernel_rfl)) (fun _ _ _ h => h) (Or.inl ⟨by rfl, ?_⟩) ?_ ?_
              rotate_left
              ·
               intro w'
               go_simp
               with_reducible rfl
              rotate_left
              ·
               simp only [Act.put, List.setIfInBounds_toArray, List.set_cons_zero, List.set_cons_succ, i64_w, i32_w]
               rfl
              exact norm_ (by simp only [putAll, Act.put, List.setIfInBounds_toArray, List.set_cons_zero, List.set_cons_succ]) (hCont (gb330) _ ⟨hHeld, (by (with_reducible repeat (first | apply Kd.R_alloc | apply Kd.R_drewN | apply Kd.R_drew)); exact HO_11.out), (by (with_reducible repeat (first | apply Kd.N_alloc | apply Kd.N_drewN | apply Kd.N_drew)); exact Kd.N_mono HO_7.out (fun _ hk => ⟨hk.1.1, ⟨hk.1.2.2.1, ⟨hk.1.2.1, ⟨hk.1.2.2.2, hk.2⟩⟩⟩⟩)), (by (with_reducible repeat (first | apply Kd.R_alloc | apply Kd.R_drewN | apply Kd.R_drew)); exact HO_8.out), (by (with_reducible repeat (first | refine blk_drewN ?_ _ | refine blk_drew ?_ | refine blk_alloc ?_ _)); exact BK313.out), (by (with_reducible repeat (first | refine blk_drewN ?_ _ | refine blk_drew ?_ | refine blk_alloc ?_ _)); exact BK330.out), GW330.out, GE330.out, NB313_330.out, NB330_313.out, (by repeat (first | (with_reducible first | exact HB.out | apply below_alloc | apply pw_below_drewN | apply below_drew1 | refine below_set ?_ GE313.out | refine below_set ?_ GE330.out) | exact HB.out))⟩)
            ·
             skip
             refine box_step ?hg (N := 14) ?hd (cs := #[.int .i64 0, .int .i64 0, .int .i64 0]) (t := 23) ?hr ?_; (case hd => rfl); (case hg => rfl); (case hr => first | (go_simp; done) | (go_simp; rfl))
             intro gb330 hg w60 hbox hb
             have n0_ := Aside0.mk (Kd.N_below (Kd.N_elderB (by (with_reducible repeat (first | apply Kd.N_alloc | apply Kd.N_drewN | apply Kd.N_drew)); exact HO_7.out) gb330 (Nat.le_of_eq hg.symm)) hb)
             have n1_ := Aside0.mk (Kd.R_below (Kd.R_elderB (by (with_reducible repeat (first | apply Kd.R_alloc | apply Kd.R_drewN | apply Kd.R_drew)); exact HO_8.out) gb330 (Nat.le_of_eq hg.symm)) hb)
             have n2_ := Aside0.mk (Kd.R_below (by (with_reducible repeat (first | apply Kd.R_alloc | apply Kd.R_drewN | apply Kd.R_drew)); exact HO_11.out) hb)
             have n3_ := Aside0.mk (blk_below (g := gb313) (o := .cells #[.int .u32 ((rd_T58 l0 x19_1).f0), .int .u32 ((rd_T58 l0 x19_1).f1), .slice A312_2 ((rd_T58 l0 x19_1).f2).length c312_2, .bool ((rd_T58 l0 x19_1).f3), .int .i64 ((rd_T58 l0 x19_1).f4), .int .i64 ((rd_T58 l0 x19_1).f5), .int .i64 ((rd_T58 l0 x19_1).f6)] 58 (0, 0)) (by (with_reducible repeat (first | refine blk_drewN ?_ _ | refine blk_drew ?_ | refine blk_alloc ?_ _)); exact BK313.out) hb)
             have n4_ := Aside0.mk (below_step (by repeat (first | (with_reducible first | exact HB.out | apply below_alloc | apply pw_below_drewN | apply below_drew1 | refine below_set ?_ GE313.out) | exact HB.out)) hb)
             have n5_ := Aside0.mk (hbox)
             have n6_ := Aside0.mk ((by rw [hg]; exact (below_size (by repeat (first | (with_reducible first | exact HB.out | apply below_alloc | apply pw_below_drewN | apply below_drew1 | refine below_set ?_ GE313.out) | exact HB.out))) : w.heap.size ≤ gb330))
             have n7_ := Aside0.mk ((by rw [hg]; exact (below_size (by repeat (first | (with_reducible first | exact HB.out | apply below_alloc | apply pw_below_drewN | apply below_drew1 | refine below_set ?_ GE313.out) | exact HB.out))) : w.heap.size ≤ gb330))
             have n8_ := Aside0.mk ((by rw [hg]; exact Nat.ne_of_lt (blk_lt (g := gb313) (o := .cells #[.int .u32 ((rd_T58 l0 x19_1).f0), .int .u32 ((rd_T58 l0 x19_1).f1), .slice A312_2 ((rd_T58 l0 x19_1).f2).length c312_2, .bool ((rd_T58 l0 x19_1).f3), .int .i64 ((rd_T58 l0 x19_1).f4), .int .i64 ((rd_T58 l0 x19_1).f5), .int .i64 ((rd_T58 l0 x19_1).f6)] 58 (0, 0)) (by (with_reducible repeat (first | refine blk_drewN ?_ _ | refine blk_drew ?_ | refine blk_alloc ?_ _)); exact BK313.out)) : gb313 ≠ gb330))
             have n9_ := Aside0.mk ((by rw [hg]; exact Nat.ne_of_gt (blk_lt (g := gb313) (o := .cells #[.int .u32 ((rd_T58 l0 x19_1).f0), .int .u32 ((rd_T58 l0 x19_1).f1), .slice A312_2 ((rd_T58 l0 x19_1).f2).length c312_2, .bool ((rd_T58 l0 x19_1).f3), .int .i64 ((rd_T58 l0 x19_1).f4), .int .i64 ((rd_T58 l0 x19_1).f5), .int .i64 ((rd_T58 l0 x19_1).f6)] 58 (0, 0)) (by (with_reducible repeat (first | refine blk_drewN ?_ _ | refine blk_drew ?_ | refine blk_alloc ?_ _)); exact BK313.out)) : gb330 ≠ gb313))
             clear HO_7
             clear HO_8
             clear HO_11
             clear BK313
             clear HB
             have HO_7 := n0_
             have HO_8 := n1_
             have HO_11 := n2_
             have BK313 := n3_
             have HB := n4_
             have BK330 := n5_
             have GW330 := n6_
             have GE330 := n7_
             have NB313_330 := n8_
             have NB330_313 := n9_
             clear n0_ n1_ n2_ n3_ n4_ n5_ n6_ n7_ n8_ n9_
             clear hb hbox hg
             refine hK.out _ _ ⟨(blk_cell BK313.out 0).trans rfl, (blk_cell BK313.out 1).trans rfl, (blk_cell BK313.out 2).trans rfl, (blk_cell BK313.out 3).trans rfl, (blk_cell BK313.out 4).trans rfl, (blk_cell BK313.out 5).trans rfl, (blk_cell BK313.out 6).trans rfl⟩ (fun hHeld => ?_)
             clear hK K
             refine norm_ (a' := ?_) ?_ ?_
             rotate_left
             ·
              show Act.put _ (some 14) _ = _
              simp only [Act.put, List.setIfInBounds_toArray, List.set_cons_zero, List.set_cons_succ, i64_w, i32_w]
              rfl
             refine one_ (i := 4) (N := some 49) #[true, true, true, true, true, true, true, false, false, true, false] rfl rfl (one_of HT_.out (by kernel_rfl)) (by decide) (fun K hK => ?_)
             refine goes_ Tryd.func47 (by kernel_rfl) rfl #[.int .u32 ((rd_T58 l0 x19_1).f0)] (by rfl) rfl rfl (by (try simp only [List.map_toArray, List.map_cons, List.map_nil]); first | done | rfl | (simp only [List.length_drop, List.length_take]; rfl)) ?_
             with_reducible refine (cohousinglaw22_residue.calls ((rd_T58 l0 x19_1).f0) t328 _ A24.out).mono ?_
             rintro e w' ⟨rfl, ⟨nd, rfl⟩⟩
             refine ⟨_, rfl, ?_⟩
             refine hK.out _ _ ⟨(blk_cell BK313.out 0).trans rfl, (blk_cell BK313.out 1).trans rfl, (blk_cell BK313.out 2).trans rfl, (blk_cell BK313.out 3).trans rfl, (blk_cell BK313.out 4).trans rfl, (blk_cell BK313.out 5).trans rfl, (blk_cell BK313.out 6).trans rfl⟩ (fun hHeld => ?_)
             clear hK K
             refine norm_ (a' := ?_) ?_ ?_
             rotate_left
             ·
              show Act.put _ (some 49) _ = _
              simp only [Act.put, List.setIfInBounds_toArray, List.set_cons_zero, List.set_cons_succ, i64_w, i32_w]
              rfl
             refine one_ (i := 7) (N := some 52) #[true, true, true, true, true, true, true, true, false, true, false] rfl rfl (one_of HT_.out (by kernel_rfl)) (by decide) (fun K hK => ?_)
             refine goes_ Tryd.func47 (by kernel_rfl) rfl #[.int .u32 ((rd_T58 l0 x19_1).f1)] (by rfl) rfl rfl (by (try simp only [List.map_toArray, List.map_cons, List.map_nil]); first | done | rfl | (simp only [List.length_drop, List.length_take]; rfl)) ?_
             with_reducible refine (cohousinglaw22_residue.calls ((rd_T58 l0 x19_1).f1) t329 _ A25.out).mono ?_
             rintro e w' ⟨rfl, ⟨nd, rfl⟩⟩
             refine ⟨_, rfl, ?_⟩
             refine hK.out _ _ ⟨(blk_cell BK313.out 0).trans rfl, (blk_cell BK313.out 1).trans rfl, (blk_cell BK313.out 2).trans rfl, (blk_cell BK313.out 3).trans rfl, (blk_cell BK313.out 4).trans rfl, (blk_cell BK313.out 5).trans rfl, (blk_cell BK313.out 6).trans rfl⟩ (fun hHeld => ?_)
             clear hK K
             refine norm_ (a' := ?_) ?_ ?_
             rotate_left
             ·
              show Act.put _ (some 52) _ = _
              simp only [Act.put, List.setIfInBounds_toArray, List.set_cons_zero, List.set_cons_succ, i64_w, i32_w]
              rfl
             refine pure_ (i := 8) (N := some 53) (v := ?_) (a' := ?_) #[true, true, true, true, true, true, true, true, true, true, false] rfl rfl (any_of HT_.out (by kernel_rfl)) (fun _ _ _ h => h) (Or.inl ⟨by rfl, ?_⟩) ?_ ?_
             rotate_left
             ·
              intro w'
              go_simp
              with_reducible rfl
             rotate_left
             ·
              simp only [Act.put, List.setIfInBounds_toArray, List.set_cons_zero, List.set_cons_succ, i64_w, i32_w]
              rfl
             exact norm_ (by simp only [putAll, Act.put, List.setIfInBounds_toArray, List.set_cons_zero, List.set_cons_succ]) (hCont (gb330) _ ⟨hHeld, (by (with_reducible repeat (first | apply Kd.R_alloc | apply Kd.R_drewN | apply Kd.R_drew)); exact HO_11.out), (by (with_reducible repeat (first | apply Kd.N_alloc | apply Kd.N_drewN | apply Kd.N_drew)); exact Kd.N_mono HO_7.out (fun _ hk => ⟨hk.1.1, ⟨hk.1.2.2.1, ⟨hk.1.2.1, ⟨hk.1.2.2.2, hk.2⟩⟩⟩⟩)), (by (with_reducible repeat (first | apply Kd.R_alloc | apply Kd.R_drewN | apply Kd.R_drew)); exact HO_8.out), (by (with_reducible repeat (first | refine blk_drewN ?_ _ | refine blk_drew ?_ | refine blk_alloc ?_ _)); exact BK313.out), (by (with_reducible repeat (first | refine blk_drewN ?_ _ | refine blk_drew ?_ | refine blk_alloc ?_ _)); exact BK330.out), GW330.out, GE330.out, NB313_330.out, NB330_313.out, (by repeat (first | (with_reducible first | exact HB.out | apply below_alloc | apply pw_below_drewN | apply below_drew1 | refine below_set ?_ GE313.out | refine below_set ?_ GE330.out) | exact HB.out))⟩)
           rintro gb330 w61 ⟨hS_, h0_, h1_, h2_, h3_, h4_, h5_, h6_, h7_, h8_, h9_⟩
           have n0_ : Aside0 (Kd.R (Kd.int .i64) 3 w61 w.heap.size (fun k_ => (w.heap.size ≤ k_)) u11 x11_2) := ⟨h0_⟩
           have n1_ : Aside0 (Kd.N k31 31 w61 w.heap.size (fun k_ => (w.heap.size ≤ k_) ∧ some k_ ≠ (u11 : Value).ownBlock ∧ some k_ ≠ (u8 : Value).ownBlock ∧ k_ ≠ gb313 ∧ k_ ≠ gb330) u7 x7_1) := ⟨h1_⟩
           have n2_ : Aside0 (Kd.R k23 23 w61 w.heap.size (fun k_ => (w.heap.size ≤ k_) ∧ k_ ≠ gb330) u8 x8_1) := ⟨h2_⟩
           have n3_ : Aside0 (w61.heap[gb313]? = some (.cells #[.int .u32 ((rd_T58 l0 x19_1).f0), .int .u32 ((rd_T58 l0 x19_1).f1), .slice A312_2 ((rd_T58 l0 x19_1).f2).length c312_2, .bool ((rd_T58 l0 x19_1).f3), .int .i64 ((rd_T58 l0 x19_1).f4), .int .i64 ((rd_T58 l0 x19_1).f5), .int .i64 ((rd_T58 l0 x19_1).f6)] 58 (0, 0))) := ⟨h3_⟩
           have n4_ : Aside0 (w61.heap[gb330]? = some (.cells #[.int .i64 0, .int .i64 0, .int .i64 0] 23 (0, 0))) := ⟨h4_⟩
           have n5_ : Aside0 (w.heap.size ≤ gb330) := ⟨h5_⟩
           have n6_ : Aside0 (w.heap.size ≤ gb330) := ⟨h6_⟩
           have n7_ : Aside0 (gb313 ≠ gb330) := ⟨h7_⟩
           have n8_ : Aside0 (gb330 ≠ gb313) := ⟨h8_⟩
           have n9_ : Aside0 (Below w.heap.size w w61) := ⟨h9_⟩
           clear HO_7
           clear HO_8
           clear HO_11
           clear BK313
           clear HB
           clear h0_ h1_ h2_ h3_ h4_ h5_ h6_ h7_ h8_ h9_
           have HO_11 := n0_
           have HO_7 := n1_
           have HO_8 := n2_
           have BK313 := n3_
           have BK330 := n4_
           have GW330 := n5_
           have GE330 := n6_
           have NB313_330 := n7_
           have NB330_313 := n8_
           have HB := n9_
           clear n0_ n1_ n2_ n3_ n4_ n5_ n6_ n7_ n8_ n9_
           have hHeld : w61.cell? ⟨gb313, 0, none⟩ = some (.int .u32 ((rd_T58 l0 x19_1).f0)) ∧ w61.cell? ⟨gb313, 1, none⟩ = some (.int .u32 ((rd_T58 l0 x19_1).f1)) ∧ w61.cell? ⟨gb313, 2, none⟩ = some (.slice A312_2 ((rd_T58 l0 x19_1).f2).length c312_2) ∧ w61.cell? ⟨gb313, 3, none⟩ = some (.bool ((rd_T58 l0 x19_1).f3)) ∧ w61.cell? ⟨gb313, 4, none⟩ = some (.int .i64 ((rd_T58 l0 x19_1).f4)) ∧ w61.cell? ⟨gb313, 5, none⟩ = some (.int .i64 ((rd_T58 l0 x19_1).f5)) ∧ w61.cell? ⟨gb313, 6, none⟩ = some (.int .i64 ((rd_T58 l0 x19_1).f6)) := hS_
           refine norm_ (a' := ?_) ?_ ?_
           rotate_left
           ·
            simp only [putAll, Act.put, List.setIfInBounds_toArray, List.set_cons_zero, List.set_cons_succ]
            rfl
           refine one_ (i := 10) (N := none) #[true, true, true, true, true, true, true, true, true, true, true] rfl rfl (one_of HT_.out (by kernel_rfl)) (by decide) (fun K hK => ?_)
           have hs62 : w61.cell? ⟨gb330, 0, none⟩ = some (.int .i64 0) := (blk_cell BK330.out 0).trans rfl
           have hfs62 := blk_frozen BK330.out 0
           have hns62_0 := NB313_330.out
           have hms62_0 := NB330_313.out
           have hs63 : w61.cell? ⟨gb330, 1, none⟩ = some (.int .i64 0) := (blk_cell BK330.out 1).trans rfl
           have hfs63 := blk_frozen BK330.out 1
           have hns63_0 := NB313_330.out
           have hms63_0 := NB330_313.out
           have hs64 : w61.cell? ⟨gb330, 2, none⟩ = some (.int .i64 0) := (blk_cell BK330.out 2).trans rfl
           have hfs64 := blk_frozen BK330.out 2
           have hns64_0 := NB313_330.out
           have hms64_0 := NB330_313.out
           refine skip_ (w1 := ?_) (by rfl) rfl ?_ ?_
           rotate_left
           ·
            go_simp
            rfl
           refine hK.out _ _ ⟨((cell_far (p := ⟨gb330, _, none⟩) NB313_330.out _).trans (((cell_far (p := ⟨gb330, _, none⟩) NB313_330.out _).trans (((cell_far (p := ⟨gb330, _, none⟩) NB313_330.out _).trans (hHeld.1)))))), ((cell_far (p := ⟨gb330, _, none⟩) NB313_330.out _).trans (((cell_far (p := ⟨gb330, _, none⟩) NB313_330.out _).trans (((cell_far (p := ⟨gb330, _, none⟩) NB313_330.out _).trans (hHeld.2.1)))))), ((cell_far (p := ⟨gb330, _, none⟩) NB313_330.out _).trans (((cell_far (p := ⟨gb330, _, none⟩) NB313_330.out _).trans (((cell_far (p := ⟨gb330, _, none⟩) NB313_330.out _).trans (hHeld.2.2.1)))))), ((cell_far (p := ⟨gb330, _, none⟩) NB313_330.out _).trans (((cell_far (p := ⟨gb330, _, none⟩) NB313_330.out _).trans (((cell_far (p := ⟨gb330, _, none⟩) NB313_330.out _).trans (hHeld.2.2.2.1)))))), ((cell_far (p := ⟨gb330, _, none⟩) NB313_330.out _).trans (((cell_far (p := ⟨gb330, _, none⟩) NB313_330.out _).trans (((cell_far (p := ⟨gb330, _, none⟩) NB313_330.out _).trans (hHeld.2.2.2.2.1)))))), ((cell_far (p := ⟨gb330, _, none⟩) NB313_330.out _).trans (((cell_far (p := ⟨gb330, _, none⟩) NB313_330.out _).trans (((cell_far (p := ⟨gb330, _, none⟩) NB313_330.out _).trans (hHeld.2.2.2.2.2.1)))))), ((cell_far (p := ⟨gb330, _, none⟩) NB313_330.out _).trans (((cell_far (p := ⟨gb330, _, none⟩) NB313_330.out _).trans (((cell_far (p := ⟨gb330, _, none⟩) NB313_330.out _).trans (hHeld.2.2.2.2.2.2))))))⟩ (fun hHeld => ?_)
           clear hK K
           refine done_ (done_of HT_.out (by kernel_rfl)) ?_
           have hnb65 := NB330_313.out
           have hnc65 := NB313_330.out
           have hcz66_0 : w61.cell? ⟨gb330, 0, none⟩ = some (.int .i64 0) := (blk_cell BK330.out 0).trans rfl
           have hcz66_1 : w61.cell? ⟨gb330, 1, none⟩ = some (.int .i64 0) := (blk_cell BK330.out 1).trans rfl
           have hcz66_2 : w61.cell? ⟨gb330, 2, none⟩ = some (.int .i64 0) := (blk_cell BK330.out 2).trans rfl
           have hfz66_0 := blk_frozen BK330.out 0
           have hfz66_1 := blk_frozen BK330.out 1
           have hfz66_2 := blk_frozen BK330.out 2
           obtain ⟨Ao67, co67, eo67⟩ := Kd.R_slice HO_11.out
           subst eo67
           try go_wp2_with (first | ((with_reducible refine gate_callee (f := 11) rfl ?_); refine goesL_ (some 59) rfl rfl Tryd.func11 (by kernel_rfl) rfl #[.agg #[.int .i64 (wrap64 (x19_1 + 1)), .int .i64 t328, .int .i64 t329], .slice Ao67 x11_2.length co67, .int .i64 (l0.length : Int)] rfl (by (try simp only [List.map_toArray, List.map_cons, List.map_nil]); first | done | rfl | (simp only [List.length_drop, List.length_take]; rfl)) ?_; (with_reducible refine (lottery_Deal.calls k2 (wrap64 (x19_1 + 1)) t328 t329 _ _ x11_2 (l0.length : Int) t331 t332 t333 t336 _ ?side1 ?side2 A26.out ?gl).mono ?_); (case gl => refine HGL.out.below ?_; repeat (first | (with_reducible first | exact HB.out | apply below_alloc | apply pw_below_drewN | apply below_drew1 | refine below_set ?_ GE313.out | refine below_set ?_ GE330.out | refine below_set ?_ GE337.out) | exact HB.out)); (case side1 => refine (Kd.R_reads' (e := 3) (base := w.heap.size) (ok := fun k_ => (w.heap.size ≤ k_)) (n := x11_2.length) (c := co67) ?_).2.2; exact (by (with_reducible repeat (first | apply Kd.R_alloc | apply Kd.R_drewN | apply Kd.R_drew)); exact (Kd.R_mono (Kd.R_far (p := ⟨gb330, 2, none⟩) (Kd.R_far (p := ⟨gb330, 1, none⟩) (Kd.R_far (p := ⟨gb330, 0, none⟩) (Kd.R_types HO_11.out BK330.out (by decide)) (fun _ hk => hk.2) (.int .i64 (wrap64 (x19_1 + 1)))) (fun _ hk => hk.2) (.int .i64 t328)) (fun _ hk => hk.2) (.int .i64 t329)) (fun _ h_ => h_.1)))); (case side2 => exact (Kd.R_reads' HO_11.out).2.1); rintro e w68 ⟨v334, rfl, ho0, hb⟩; refine ⟨_, rfl, ?_⟩; have n0_ := Aside0.mk (Kd.N_elder' (by (with_reducible repeat (first | apply Kd.N_alloc | apply Kd.N_drewN | apply Kd.N_drew)); exact (Kd.N_mono (Kd.N_far (p := ⟨gb330, 2, none⟩) (Kd.N_far (p := ⟨gb330, 1, none⟩) (Kd.N_far (p := ⟨gb330, 0, none⟩) (Kd.N_mono HO_7.out (fun k_ hk => (⟨hk, hk.2.2.2.2⟩ : _ ∧ k_ ≠ gb330))) (fun _ hk => hk.2) (.int .i64 (wrap64 (x19_1 + 1)))) (fun _ hk => hk.2) (.int .i64 t328)) (fun _ hk => hk.2) (.int .i64 t329)) (fun _ h_ => h_.1))) (Kd.R_base ho0) hb); have n1_ := Aside0.mk (Kd.R_below (by (with_reducible repeat (first | apply Kd.R_alloc | apply Kd.R_drewN | apply Kd.R_drew)); exact (Kd.R_mono (Kd.R_far (p := ⟨gb330, 2, none⟩) (Kd.R_far (p := ⟨gb330, 1, none⟩) (Kd.R_far (p := ⟨gb330, 0, none⟩) (Kd.R_mono HO_8.out (fun k_ hk => (⟨hk, hk.2⟩ : _ ∧ k_ ≠ gb330))) (fun _ hk => hk.2) (.int .i64 (wrap64 (x19_1 + 1)))) (fun _ hk => hk.2) (.int .i64 t328)) (fun _ hk => hk.2) (.int .i64 t329)) (fun _ h_ => h_.1))) hb); have n2_ := Aside0.mk (Kd.R_below (by (with_reducible repeat (first | apply Kd.R_alloc | apply Kd.R_drewN | apply Kd.R_drew)); exact (Kd.R_mono (Kd.R_far (p := ⟨gb330, 2, none⟩) (Kd.R_far (p := ⟨gb330, 1, none⟩) (Kd.R_far (p := ⟨gb330, 0, none⟩) (Kd.R_types HO_11.out BK330.out (by decide)) (fun _ hk => hk.2) (.int .i64 (wrap64 (x19_1 + 1)))) (fun _ hk => hk.2) (.int .i64 t328)) (fun _ hk => hk.2) (.int .i64 t329)) (fun _ h_ => h_.1))) hb); have n3_ := Aside0.mk (Kd.R_lower (Kd.R_newM (M := fun k_ => (w.heap.size ≤ k_)) ho0 (below_size (by repeat (first | (with_reducible first | exact HB.out | apply below_alloc | apply pw_below_drewN | apply below_drew1 | refine below_set ?_ GE313.out | refine below_set ?_ GE330.out) | exact HB.out))) (fun k_ h_ => h_)) (below_size (by repeat (first | (with_reducible first | exact HB.out | apply below_alloc | apply pw_below_drewN | apply below_drew1 | refine below_set ?_ GE313.out | refine below_set ?_ GE330.out) | exact HB.out)))); have n4_ := Aside0.mk (blk_below (g := gb313) (o := .cells #[.int .u32 ((rd_T58 l0 x19_1).f0), .int .u32 ((rd_T58 l0 x19_1).f1), .slice A312_2 ((rd_T58 l0 x19_1).f2).length c312_2, .bool ((rd_T58 l0 x19_1).f3), .int .i64 ((rd_T58 l0 x19_1).f4), .int .i64 ((rd_T58 l0 x19_1).f5), .int .i64 ((rd_T58 l0 x19_1).f6)] 58 (0, 0)) (by (with_reducible repeat (first | refine blk_drewN ?_ _ | refine blk_drew ?_ | refine blk_alloc ?_ _)); refine blk_far ?_ NB313_330.out _; (with_reducible repeat (first | refine blk_drewN ?_ _ | refine blk_drew ?_ | refine blk_alloc ?_ _)); refine blk_far ?_ NB313_330.out _; (with_reducible repeat (first | refine blk_drewN ?_ _ | refine blk_drew ?_ | refine blk_alloc ?_ _)); refine blk_far ?_ NB313_330.out _; (with_reducible repeat (first | refine blk_drewN ?_ _ | refine blk_drew ?_ | refine blk_alloc ?_ _)); exact BK313.out) hb); have n5_ := Aside0.mk (blk_below (g := gb330) (o := .cells #[.int .i64 (wrap64 (x19_1 + 1)), .int .i64 t328, .int .i64 t329] 23 (0, 0)) (by (with_reducible repeat (first | refine blk_drewN ?_ _ | refine blk_drew ?_ | refine blk_alloc ?_ _)); refine blk_put (cs := #[.int .i64 (wrap64 (x19_1 + 1)), .int .i64 t328, .int .i64 0]) ?_ 2 _ rfl; (with_reducible repeat (first | refine blk_drewN ?_ _ | refine blk_drew ?_ | refine blk_alloc ?_ _)); refine blk_put (cs := #[.int .i64 (wrap64 (x19_1 + 1)), .int .i64 0, .int .i64 0]) ?_ 1 _ rfl; (with_reducible repeat (first | refine blk_drewN ?_ _ | refine blk_drew ?_ | refine blk_alloc ?_ _)); refine blk_put (cs := #[.int .i64 0, .int .i64 0, .int .i64 0]) ?_ 0 _ rfl; (with_reducible repeat (first | refine blk_drewN ?_ _ | refine blk_drew ?_ | refine blk_alloc ?_ _)); exact BK330.out) hb); have n6_ := Aside0.mk (below_step (by repeat (first | (with_reducible first | exact HB.out | apply below_alloc | apply pw_below_drewN | apply below_drew1 | refine below_set ?_ GE313.out | refine below_set ?_ GE330.out) | exact HB.out)) hb); clear HO_7; clear HO_8; clear HO_11; clear BK313; clear BK330; clear HB; have HO_7 := n0_; have HO_8 := n1_; have HO_11 := n2_; have HO335 := n3_; have BK313 := n4_; have BK330 := n5_; have HB := n6_; clear n0_ n1_ n2_ n3_ n4_ n5_ n6_; (try clear hb); (try clear hb2); (try clear hk); (try clear hi); (try clear ho0)) | ((with_reducible refine gate_dst (N := 15) rfl ?_); (try (refine gate_guard (by rfl) ?_; dsimp only)); refine box_event ?hg (N := 15) ?hd (cs := #[.int .i64 0, .int .u64 0, .slice none 0 0]) (t := 31) ?hr ?_; (case hd => rfl); (case hg => rfl); (case hr => first | (go_simp; done) | (go_simp; rfl)); intro gb337 hg w69 hbox hb; have n0_ := Aside0.mk (Kd.N_below (Kd.N_elderB (by (with_reducible repeat (first | apply Kd.N_alloc | apply Kd.N_drewN | apply Kd.N_drew)); exact HO_7.out) gb337 (Nat.le_of_eq hg.symm)) hb); have n1_ := Aside0.mk (Kd.R_below (by (with_reducible repeat (first | apply Kd.R_alloc | apply Kd.R_drewN | apply Kd.R_drew)); exact HO_8.out) hb); have n2_ := Aside0.mk (Kd.R_below (by (with_reducible repeat (first | apply Kd.R_alloc | apply Kd.R_drewN | apply Kd.R_drew)); exact HO_11.out) hb); have n3_ := Aside0.mk (Kd.R_below (by (with_reducible repeat (first | apply Kd.R_alloc | apply Kd.R_drewN | apply Kd.R_drew)); exact HO335.out) hb); have n4_ := Aside0.mk (blk_below (g := gb313) (o := .cells #[.int .u32 ((rd_T58 l0 x19_1).f0), .int .u32 ((rd_T58 l0 x19_1).f1), .slice A312_2 ((rd_T58 l0 x19_1).f2).length c312_2, .bool ((rd_T58 l0 x19_1).f3), .int .i64 ((rd_T58 l0 x19_1).f4), .int .i64 ((rd_T58 l0 x19_1).f5), .int .i64 ((rd_T58 l0 x19_1).f6)] 58 (0, 0)) (by (with_reducible repeat (first | refine blk_drewN ?_ _ | refine blk_drew ?_ | refine blk_alloc ?_ _)); exact BK313.out) hb); have n5_ := Aside0.mk (blk_below (g := gb330) (o := .cells #[.int .i64 (wrap64 (x19_1 + 1)), .int .i64 t328, .int .i64 t329] 23 (0, 0)) (by (with_reducible repeat (first | refine blk_drewN ?_ _ | refine blk_drew ?_ | refine blk_alloc ?_ _)); exact BK330.out) hb); have n6_ := Aside0.mk (below_step (by repeat (first | (with_reducible first | exact HB.out | apply below_alloc | apply pw_below_drewN | apply below_drew1 | refine below_set ?_ GE313.out | refine below_set ?_ GE330.out) | exact HB.out)) hb); have n7_ := Aside0.mk (hbox); have n8_ := Aside0.mk ((by rw [hg]; exact (below_size (by repeat (first | (with_reducible first | exact HB.out | apply below_alloc | apply pw_below_drewN | apply below_drew1 | refine below_set ?_ GE313.out | refine below_set ?_ GE330.out) | exact HB.out))) : w.heap.size ≤ gb337)); have n9_ := Aside0.mk ((by rw [hg]; exact (below_size (by repeat (first | (with_reducible first | exact HB.out | apply below_alloc | apply pw_below_drewN | apply below_drew1 | refine below_set ?_ GE313.out | refine below_set ?_ GE330.out) | exact HB.out))) : w.heap.size ≤ gb337)); have n10_ := Aside0.mk ((by rw [hg]; exact Nat.ne_of_lt (blk_lt (g := gb313) (o := .cells #[.int .u32 ((rd_T58 l0 x19_1).f0), .int .u32 ((rd_T58 l0 x19_1).f1), .slice A312_2 ((rd_T58 l0 x19_1).f2).length c312_2, .bool ((rd_T58 l0 x19_1).f3), .int .i64 ((rd_T58 l0 x19_1).f4), .int .i64 ((rd_T58 l0 x19_1).f5), .int .i64 ((rd_T58 l0 x19_1).f6)] 58 (0, 0)) (by (with_reducible repeat (first | refine blk_drewN ?_ _ | refine blk_drew ?_ | refine blk_alloc ?_ _)); exact BK313.out)) : gb313 ≠ gb337)); have n11_ := Aside0.mk ((by rw [hg]; exact Nat.ne_of_gt (blk_lt (g := gb313) (o := .cells #[.int .u32 ((rd_T58 l0 x19_1).f0), .int .u32 ((rd_T58 l0 x19_1).f1), .slice A312_2 ((rd_T58 l0 x19_1).f2).length c312_2, .bool ((rd_T58 l0 x19_1).f3), .int .i64 ((rd_T58 l0 x19_1).f4), .int .i64 ((rd_T58 l0 x19_1).f5), .int .i64 ((rd_T58 l0 x19_1).f6)] 58 (0, 0)) (by (with_reducible repeat (first | refine blk_drewN ?_ _ | refine blk_drew ?_ | refine blk_alloc ?_ _)); exact BK313.out)) : gb337 ≠ gb313)); have n12_ := Aside0.mk ((by rw [hg]; exact Nat.ne_of_lt (blk_lt (g := gb330) (o := .cells #[.int .i64 (wrap64 (x19_1 + 1)), .int .i64 t328, .int .i64 t329] 23 (0, 0)) (by (with_reducible repeat (first | refine blk_drewN ?_ _ | refine blk_drew ?_ | refine blk_alloc ?_ _)); exact BK330.out)) : gb330 ≠ gb337)); have n13_ := Aside0.mk ((by rw [hg]; exact Nat.ne_of_gt (blk_lt (g := gb330) (o := .cells #[.int .i64 (wrap64 (x19_1 + 1)), .int .i64 t328, .int .i64 t329] 23 (0, 0)) (by (with_reducible repeat (first | refine blk_drewN ?_ _ | refine blk_drew ?_ | refine blk_alloc ?_ _)); exact BK330.out)) : gb337 ≠ gb330)); clear HO_7; clear HO_8; clear HO_11; clear HO335; clear BK313; clear BK330; clear HB; have HO_7 := n0_; have HO_8 := n1_; have HO_11 := n2_; have HO335 := n3_; have BK313 := n4_; have BK330 := n5_; have HB := n6_; have BK337 := n7_; have GW337 := n8_; have GE337 := n9_; have NB313_337 := n10_; have NB337_313 := n11_; have NB330_337 := n12_; have NB337_330 := n13_; clear n0_ n1_ n2_ n3_ n4_ n5_ n6_ n7_ n8_ n9_ n10_ n11_ n12_ n13_; clear hb hbox hg; have hnb70 := NB337_313.out; have hnc70 := NB313_337.out; have hnb71 := NB337_330.out; have hnc71 := NB330_337.out; have hcz72_0 : w69.cell? ⟨gb337, 0, none⟩ = some (.int .i64 0) := (blk_cell BK337.out 0).trans rfl; have hcz72_1 : w69.cell? ⟨gb337, 1, none⟩ = some (.int .u64 0) := (blk_cell BK337.out 1).trans rfl; have hcz72_2 : w69.cell? ⟨gb337, 2, none⟩ = some (.slice none 0 0) := (blk_cell BK337.out 2).trans rfl; have hfz72_0 := blk_frozen BK337.out 0; have hfz72_1 := blk_frozen BK337.out 1; have hfz72_2 := blk_frozen BK337.out 2; obtain ⟨Ao73, co73, eo73⟩ := Kd.R_slice HO335.out; subst eo73))
           go_ret3
           exact ⟨_, _, by first | rfl | (simp [errW_none, errW_some] <;> rfl) | (simp [*, errW_none, errW_some] <;> rfl), by first | exact Kd.S_nil _ _ _ _ _ | exact Kd.N_nil _ _ _ _ _ | exact Kd.V_nil _ _ _ _ _ | exact Kd.Q_nil _ _ _ _ _ | exact Kd.R_nil _ _ _ _ _, by first | exact Kd.R_nil _ _ _ _ _ | exact Kd.N_nil _ _ _ _ _ | exact Kd.V_nil _ _ _ _ _ | exact Kd.Q_nil _ _ _ _ _ | exact Kd.S_nil _ _ _ _ _, by repeat (first | (with_reducible first | exact HB.out | apply below_alloc | apply pw_below_drewN | apply below_drew1 | refine below_set ?_ GE313.out | refine below_set ?_ GE330.out | refine below_set ?_ GE337.out) | exact HB.out)⟩
         ·
          rw [if_neg c27] at H
          have c27b0 : (t336 == 0) = false := beq_eq_false_iff_ne.mpr c27
          have c27b1 : (t336 != 0) = true := bne_iff_ne.mpr c27
          simp only [Option.some.injEq, Prod.mk.injEq] at H
          obtain ⟨rfl, rfl, rfl⟩ := H
          try go_wp2
          have n0_ := Aside0.mk (Kd.N_drew HO_7.out)
          have n1_ := Aside0.mk (Kd.R_drew HO_8.out)
          have n2_ := Aside0.mk (Kd.R_drew HO_11.out)
          have n3_ := Aside0.mk (blk_drew BK313.out)
          have n4_ := Aside0.mk (below_drew1 HB.out)
          clear HO_7
          clear HO_8
          clear HO_11
          clear BK313
          clear HB
          have HO_7 := n0_
          have HO_8 := n1_
          have HO_11 := n2_
          have BK313 := n3_
          have HB := n4_
          clear n0_ n1_ n2_ n3_ n4_
          refine start_ (n := 11) (S := fun w' => w'.cell? ⟨gb313, 0, none⟩ = some (.int .u32 ((rd_T58 l0 x19_1).f0)) ∧ w'.cell? ⟨gb313, 1, none⟩ = some (.int .u32 ((rd_T58 l0 x19_1).f1)) ∧ w'.cell? ⟨gb313, 2, none⟩ = some (.slice A312_2 ((rd_T58 l0 x19_1).f2).length c312_2) ∧ w'.cell? ⟨gb313, 3, none⟩ = some (.bool ((rd_T58 l0 x19_1).f3)) ∧ w'.cell? ⟨gb313, 4, none⟩ = some (.int .i64 ((rd_T58 l0 x19_1).f4)) ∧ w'.cell? ⟨gb313, 5, none⟩ = some (.int .i64 ((rd_T58 l0 x19_1).f5)) ∧ w'.cell? ⟨gb313, 6, none⟩ = some (.int .i64 ((rd_T58 l0 x19_1).f6))) (ds := []) #[false, false, false, false, false, false, false, false, false, false, false] (by kernel_rfl) rfl rfl ⟨(blk_cell BK313.out 0).trans rfl, (blk_cell BK313.out 1).trans rfl, (blk_cell BK313.out 2).trans rfl, (blk_cell BK313.out 3).trans rfl, (blk_cell BK313.out 4).trans rfl, (blk_cell BK313.out 5).trans rfl, (blk_cell BK313.out 6).trans rfl⟩ (fun hHeld => ?_); refine with_tabW cohousinglaw22_dealt.tab14 cohousinglaw22_dealt.bits14 (fun HT_ HW_ => ?_)
          generalize wr.drew = w74 at HO_7 HO_8 HO_11 BK313 HB hHeld ⊢
          refine pure_ (i := 0) (N := some 45) (v := ?_) (a' := ?_) #[true, false, false, false, false, false, false, false, false, false, false] rfl rfl (any_of HT_.out (by kernel_rfl)) (fun _ _ _ h => h) (Or.inl ⟨by rfl, ?_⟩) ?_ ?_
          rotate_left
          ·
           intro w'
           go_simp
           with_reducible rfl
          rotate_left
          ·
           simp only [Act.put, List.setIfInBounds_toArray, List.set_cons_zero, List.set_cons_succ, i64_w, i32_w]
           rfl
          refine pure_ (i := 1) (N := some 46) (v := ?_) (a' := ?_) #[true, true, false, false, false, false, false, false, false, false, false] rfl rfl (any_of HT_.out (by kernel_rfl)) (fun _ _ _ h => h) (Or.inl ⟨by rfl, ?_⟩) ?_ ?_
          rotate_left
          ·
           intro w'
           go_simp
           with_reducible rfl
          rotate_left
          ·
           simp only [Act.put, List.setIfInBounds_toArray, List.set_cons_zero, List.set_cons_succ, i64_w, i32_w]
           rfl
          refine pure_ (i := 2) (N := some 47) (v := ?_) (a' := ?_) #[true, true, true, false, false, false, false, false, false, false, false] rfl rfl (any_of HT_.out (by kernel_rfl)) (fun _ _ _ h => h) (Or.inl ⟨by rfl, ?_⟩) ?_ ?_
          rotate_left
          ·
           intro w'
           go_simp
           with_reducible rfl
          rotate_left
          ·
           simp only [Act.put, List.setIfInBounds_toArray, List.set_cons_zero, List.set_cons_succ, i64_w, i32_w]
           rfl
          refine pure_ (i := 5) (N := some 50) (v := ?_) (a' := ?_) #[true, true, true, false, false, true, false, false, false, false, false] rfl rfl (any_of HT_.out (by kernel_rfl)) (fun _ _ _ h => h) (Or.inl ⟨by rfl, ?_⟩) ?_ ?_
          rotate_left
          ·
           intro w'
           go_simp
           with_reducible rfl
          rotate_left
          ·
           simp only [Act.put, List.setIfInBounds_toArray, List.set_cons_zero, List.set_cons_succ, i64_w, i32_w]
           rfl
          refine take_ (i := 3) (N := some 48) (v := ?_) (a' := ?_) #[true, true, true, true, false, true, false, false, false, false, false] rfl rfl (take_ofW HT_.out HW_.out (by kernel_rfl)) (fun _ _ _ h => h) (Or.inl ⟨by rfl, ?_⟩) hHeld ?_ ?_
          rotate_left
          ·
           rintro w' ⟨s0, s1, s2, s3, s4, s5, s6⟩
           go_simp
           with_reducible rfl
          rotate_left
          ·
           simp only [Act.put, List.setIfInBounds_toArray, List.set_cons_zero, List.set_cons_succ, i64_w, i32_w]
           rfl
          refine take_ (i := 6) (N := some 51) (v := ?_) (a' := ?_) #[true, true, true, true, false, true, true, false, false, false, false] rfl rfl (take_ofW HT_.out HW_.out (by kernel_rfl)) (fun _ _ _ h => h) (Or.inl ⟨by rfl, ?_⟩) hHeld ?_ ?_
          rotate_left
          ·
           rintro w' ⟨s0, s1, s2, s3, s4, s5, s6⟩
           go_simp
           with_reducible rfl
          rotate_left
          ·
           simp only [Act.put, List.setIfInBounds_toArray, List.set_cons_zero, List.set_cons_succ, i64_w, i32_w]
           rfl
          refine join_ (σ := Nat) 1 #[true, true, true, true, true, true, true, true, true, true, false] (fun s_ => [(49, .int .i64 t328), (52, .int .i64 t329), (14, .pointer (some ⟨s_, 0, none⟩)), (53, .agg #[.int .i64 (wrap64 (x19_1 + 1)), .int .i64 t328, .int .i64 t329])]) (fun s_ w' => (w'.cell? ⟨gb313, 0, none⟩ = some (.int .u32 ((rd_T58 l0 x19_1).f0)) ∧ w'.cell? ⟨gb313, 1, none⟩ = some (.int .u32 ((rd_T58 l0 x19_1).f1)) ∧ w'.cell? ⟨gb313, 2, none⟩ = some (.slice A312_2 ((rd_T58 l0 x19_1).f2).length c312_2) ∧ w'.cell? ⟨gb313, 3, none⟩ = some (.bool ((rd_T58 l0 x19_1).f3)) ∧ w'.cell? ⟨gb313, 4, none⟩ = some (.int .i64 ((rd_T58 l0 x19_1).f4)) ∧ w'.cell? ⟨gb313, 5, none⟩ = some (.int .i64 ((rd_T58 l0 x19_1).f5)) ∧ w'.cell? ⟨gb313, 6, none⟩ = some (.int .i64 ((rd_T58 l0 x19_1).f6))) ∧ (Kd.R (Kd.int .i64) 3 w' w.heap.size (fun k_ => (w.heap.size ≤ k_)) u11 x11_2) ∧ (Kd.N k31 31 w' w.heap.size (fun k_ => (w.heap.size ≤ k_) ∧ some k_ ≠ (u11 : Value).ownBlock ∧ some k_ ≠ (u8 : Value).ownBlock ∧ k_ ≠ gb313 ∧ k_ ≠ s_) u7 x7_1) ∧ (Kd.R k23 23 w' w.heap.size (fun k_ => (w.heap.size ≤ k_) ∧ k_ ≠ s_) u8 x8_1) ∧ (w'.heap[gb313]? = some (.cells #[.int .u32 ((rd_T58 l0 x19_1).f0), .int .u32 ((rd_T58 l0 x19_1).f1), .slice A312_2 ((rd_T58 l0 x19_1).f2).length c312_2, .bool ((rd_T58 l0 x19_1).f3), .int .i64 ((rd_T58 l0 x19_1).f4), .int .i64 ((rd_T58 l0 x19_1).f5), .int .i64 ((rd_T58 l0 x19_1).f6)] 58 (0, 0))) ∧ (w'.heap[s_]? = some (.cells #[.int .i64 0, .int .i64 0, .int .i64 0] 23 (0, 0))) ∧ (w.heap.size ≤ s_) ∧ (w.heap.size ≤ s_) ∧ (gb313 ≠ s_) ∧ (s_ ≠ gb313) ∧ (Below w.heap.size w w')) ?_ ?_
          rotate_left
          ·
           intro hCont
           refine two_ (i := 4) (j := 9) (Ni := some 49) (Nj := some 14) #[true, true, true, true, true, true, true, false, false, false, false] #[true, true, true, true, false, true, true, false, false, true, false] rfl rfl rfl rfl (two_of HT_.out (by kernel_rfl)) (by decide) (by decide) (fun K hK => ?_) (fun K hK => ?_)
           ·
            skip
            refine goes_ Tryd.func47 (by kernel_rfl) rfl #[.int .u32 ((rd_T58 l0 x19_1).f0)] (by rfl) rfl rfl (by (try simp only [List.map_toArray, List.map_cons, List.map_nil]); first | done | rfl | (simp only [List.length_drop, List.length_take]; rfl)) ?_
            with_reducible refine (cohousinglaw22_residue.calls ((rd_T58 l0 x19_1).f0) t328 _ A24.out).mono ?_
            rintro e w' ⟨rfl, ⟨nd, rfl⟩⟩
            refine ⟨_, rfl, ?_⟩
            refine hK.out _ _ ⟨(blk_cell BK313.out 0).trans rfl, (blk_cell BK313.out 1).trans rfl, (blk_cell BK313.out 2).trans rfl, (blk_cell BK313.out 3).trans rfl, (blk_cell BK313.out 4).trans rfl, (blk_cell BK313.out 5).trans rfl, (blk_cell BK313.out 6).trans rfl⟩ (fun hHeld => ?_)
            clear hK K
            refine norm_ (a' := ?_) ?_ ?_
            rotate_left
            ·
             show Act.put _ (some 49) _ = _
             simp only [Act.put, List.setIfInBounds_toArray, List.set_cons_zero, List.set_cons_succ, i64_w, i32_w]
             rfl
            refine two_ (i := 7) (j := 9) (Ni := some 52) (Nj := some 14) #[true, true, true, true, true, true, true, true, false, false, false] #[true, true, true, true, true, true, true, false, false, true, false] rfl rfl rfl rfl (two_of HT_.out (by kernel_rfl)) (by decide) (by decide) (fun K hK => ?_) (fun K hK => ?_)
            ·
             skip
             refine goes_ Tryd.func47 (by kernel_rfl) rfl #[.int .u32 ((rd_T58 l0 x19_1).f1)] (by rfl) rfl rfl (by (try simp only [List.map_toArray, List.map_cons, List.map_nil]); first | done | rfl | (simp only [List.length_drop, List.length_take]; rfl)) ?_
             with_reducible refine (cohousinglaw22_residue.calls ((rd_T58 l0 x19_1).f1) t329 _ A25.out).mono ?_
             rintro e w' ⟨rfl, ⟨nd, rfl⟩⟩
             refine ⟨_, rfl, ?_⟩
             refine hK.out _ _ ⟨(blk_cell BK313.out 0).trans rfl, (blk_cell BK313.out 1).trans rfl, (blk_cell BK313.out 2).trans rfl, (blk_cell BK313.out 3).trans rfl, (blk_cell BK313.out 4).trans rfl, (blk_cell BK313.out 5).trans rfl, (blk_cell BK313.out 6).trans rfl⟩ (fun hHeld => ?_)
             clear hK K
             refine norm_ (a' := ?_) ?_ ?_
             rotate_left
             ·
              show Act.put _ (some 52) _ = _
              simp only [Act.put, List.setIfInBounds_toArray, List.set_cons_zero, List.set_cons_succ, i64_w, i32_w]
              rfl
             refine pure_ (i := 8) (N := some 53) (v := ?_) (a' := ?_) #[true, true, true, true, true, true, true, true, true, false, false] rfl rfl (any_of HT_.out (by kernel_rfl)) (fun _ _ _ h => h) (Or.inl ⟨by rfl, ?_⟩) ?_ ?_
             rotate_left
             ·
              intro w'
              go_simp
              with_reducible rfl
             rotate_left
             ·
              simp only [Act.put, List.setIfInBounds_toArray, List.set_cons_zero, List.set_cons_succ, i64_w, i32_w]
              rfl
             refine one_ (i := 9) (N := some 14) #[true, true, true, true, true, true, true, true, true, true, false] rfl rfl (one_of HT_.out (by kernel_rfl)) (by decide) (fun K hK => ?_)
             refine box_step ?hg (N := 14) ?hd (cs := #[.int .i64 0, .int .i64 0, .int .i64 0]) (t := 23) ?hr ?_; (case hd => rfl); (case hg => rfl); (case hr => first | (go_simp; done) | (go_simp; rfl))
             intro gb330 hg w75 hbox hb
             have n0_ := Aside0.mk (Kd.N_below (Kd.N_elderB (by (with_reducible repeat (first | apply Kd.N_alloc | apply Kd.N_drewN | apply Kd.N_drew)); exact HO_7.out) gb330 (Nat.le_of_eq hg.symm)) hb)
             have n1_ := Aside0.mk (Kd.R_below (Kd.R_elderB (by (with_reducible repeat (first | apply Kd.R_alloc | apply Kd.R_drewN | apply Kd.R_drew)); exact HO_8.out) gb330 (Nat.le_of_eq hg.symm)) hb)
             have n2_ := Aside0.mk (Kd.R_below (by (with_reducible repeat (first | apply Kd.R_alloc | apply Kd.R_drewN | apply Kd.R_drew)); exact HO_11.out) hb)
             have n3_ := Aside0.mk (blk_below (g := gb313) (o := .cells #[.int .u32 ((rd_T58 l0 x19_1).f0), .int .u32 ((rd_T58 l0 x19_1).f1), .slice A312_2 ((rd_T58 l0 x19_1).f2).length c312_2, .bool ((rd_T58 l0 x19_1).f3), .int .i64 ((rd_T58 l0 x19_1).f4), .int .i64 ((rd_T58 l0 x19_1).f5), .int .i64 ((rd_T58 l0 x19_1).f6)] 58 (0, 0)) (by (with_reducible repeat (first | refine blk_drewN ?_ _ | refine blk_drew ?_ | refine blk_alloc ?_ _)); exact BK313.out) hb)
             have n4_ := Aside0.mk (below_step (by repeat (first | (with_reducible first | exact HB.out | apply below_alloc | apply pw_below_drewN | apply below_drew1 | refine below_set ?_ GE313.out) | exact HB.out)) hb)
             have n5_ := Aside0.mk (hbox)
             have n6_ := Aside0.mk ((by rw [hg]; exact (below_size (by repeat (first | (with_reducible first | exact HB.out | apply below_alloc | apply pw_below_drewN | apply below_drew1 | refine below_set ?_ GE313.out) | exact HB.out))) : w.heap.size ≤ gb330))
             have n7_ := Aside0.mk ((by rw [hg]; exact (below_size (by repeat (first | (with_reducible first | exact HB.out | apply below_alloc | apply pw_below_drewN | apply below_drew1 | refine below_set ?_ GE313.out) | exact HB.out))) : w.heap.size ≤ gb330))
             have n8_ := Aside0.mk ((by rw [hg]; exact Nat.ne_of_lt (blk_lt (g := gb313) (o := .cells #[.int .u32 ((rd_T58 l0 x19_1).f0), .int .u32 ((rd_T58 l0 x19_1).f1), .slice A312_2 ((rd_T58 l0 x19_1).f2).length c312_2, .bool ((rd_T58 l0 x19_1).f3), .int .i64 ((rd_T58 l0 x19_1).f4), .int .i64 ((rd_T58 l0 x19_1).f5), .int .i64 ((rd_T58 l0 x19_1).f6)] 58 (0, 0)) (by (with_reducible repeat (first | refine blk_drewN ?_ _ | refine blk_drew ?_ | refine blk_alloc ?_ _)); exact BK313.out)) : gb313 ≠ gb330))
             have n9_ := Aside0.mk ((by rw [hg]; exact Nat.ne_of_gt (blk_lt (g := gb313) (o := .cells #[.int .u32 ((rd_T58 l0 x19_1).f0), .int .u32 ((rd_T58 l0 x19_1).f1), .slice A312_2 ((rd_T58 l0 x19_1).f2).length c312_2, .bool ((rd_T58 l0 x19_1).f3), .int .i64 ((rd_T58 l0 x19_1).f4), .int .i64 ((rd_T58 l0 x19_1).f5), .int .i64 ((rd_T58 l0 x19_1).f6)] 58 (0, 0)) (by (with_reducible repeat (first | refine blk_drewN ?_ _ | refine blk_drew ?_ | refine blk_alloc ?_ _)); exact BK313.out)) : gb330 ≠ gb313))
             clear HO_7
             clear HO_8
             clear HO_11
             clear BK313
             clear HB
             have HO_7 := n0_
             have HO_8 := n1_
             have HO_11 := n2_
             have BK313 := n3_
             have HB := n4_
             have BK330 := n5_
             have GW330 := n6_
             have GE330 := n7_
             have NB313_330 := n8_
             have NB330_313 := n9_
             clear n0_ n1_ n2_ n3_ n4_ n5_ n6_ n7_ n8_ n9_
             clear hb hbox hg
             refine hK.out _ _ ⟨(blk_cell BK313.out 0).trans rfl, (blk_cell BK313.out 1).trans rfl, (blk_cell BK313.out 2).trans rfl, (blk_cell BK313.out 3).trans rfl, (blk_cell BK313.out 4).trans rfl, (blk_cell BK313.out 5).trans rfl, (blk_cell BK313.out 6).trans rfl⟩ (fun hHeld => ?_)
             clear hK K
             refine norm_ (a' := ?_) ?_ ?_
             rotate_left
             ·
              show Act.put _ (some 14) _ = _
              simp only [Act.put, List.setIfInBounds_toArray, List.set_cons_zero, List.set_cons_succ, i64_w, i32_w]
              rfl
             exact norm_ (by simp only [putAll, Act.put, List.setIfInBounds_toArray, List.set_cons_zero, List.set_cons_succ]) (hCont (gb330) _ ⟨hHeld, (by (with_reducible repeat (first | apply Kd.R_alloc | apply Kd.R_drewN | apply Kd.R_drew)); exact HO_11.out), (by (with_reducible repeat (first | apply Kd.N_alloc | apply Kd.N_drewN | apply Kd.N_drew)); exact Kd.N_mono HO_7.out (fun _ hk => ⟨hk.1.1, ⟨hk.1.2.2.1, ⟨hk.1.2.1, ⟨hk.1.2.2.2, hk.2⟩⟩⟩⟩)), (by (with_reducible repeat (first | apply Kd.R_alloc | apply Kd.R_drewN | apply Kd.R_drew)); exact HO_8.out), (by (with_reducible repeat (first | refine blk_drewN ?_ _ | refine blk_drew ?_ | refine blk_alloc ?_ _)); exact BK313.out), (by (with_reducible repeat (first | refine blk_drewN ?_ _ | refine blk_drew ?_ | refine blk_alloc ?_ _)); exact BK330.out), GW330.out, GE330.out, NB313_330.out, NB330_313.out, (by repeat (first | (with_reducible first | exact HB.out | apply below_alloc | apply pw_below_drewN | apply below_drew1 | refine below_set ?_ GE313.out | refine below_set ?_ GE330.out) | exact HB.out))⟩)
            ·
             skip
             refine box_step ?hg (N := 14) ?hd (cs := #[.int .i64 0, .int .i64 0, .int .i64 0]) (t := 23) ?hr ?_; (case hd => rfl); (case hg => rfl); (case hr => first | (go_simp; done) | (go_simp; rfl))
             intro gb330 hg w75 hbox hb
             have n0_ := Aside0.mk (Kd.N_below (Kd.N_elderB (by (with_reducible repeat (first | apply Kd.N_alloc | apply Kd.N_drewN | apply Kd.N_drew)); exact HO_7.out) gb330 (Nat.le_of_eq hg.symm)) hb)
             have n1_ := Aside0.mk (Kd.R_below (Kd.R_elderB (by (with_reducible repeat (first | apply Kd.R_alloc | apply Kd.R_drewN | apply Kd.R_drew)); exact HO_8.out) gb330 (Nat.le_of_eq hg.symm)) hb)
             have n2_ := Aside0.mk (Kd.R_below (by (with_reducible repeat (first | apply Kd.R_alloc | apply Kd.R_drewN | apply Kd.R_drew)); exact HO_11.out) hb)
             have n3_ := Aside0.mk (blk_below (g := gb313) (o := .cells #[.int .u32 ((rd_T58 l0 x19_1).f0), .int .u32 ((rd_T58 l0 x19_1).f1), .slice A312_2 ((rd_T58 l0 x19_1).f2).length c312_2, .bool ((rd_T58 l0 x19_1).f3), .int .i64 ((rd_T58 l0 x19_1).f4), .int .i64 ((rd_T58 l0 x19_1).f5), .int .i64 ((rd_T58 l0 x19_1).f6)] 58 (0, 0)) (by (with_reducible repeat (first | refine blk_drewN ?_ _ | refine blk_drew ?_ | refine blk_alloc ?_ _)); exact BK313.out) hb)
             have n4_ := Aside0.mk (below_step (by repeat (first | (with_reducible first | exact HB.out | apply below_alloc | apply pw_below_drewN | apply below_drew1 | refine below_set ?_ GE313.out) | exact HB.out)) hb)
             have n5_ := Aside0.mk (hbox)
             have n6_ := Aside0.mk ((by rw [hg]; exact (below_size (by repeat (first | (with_reducible first | exact HB.out | apply below_alloc | apply pw_below_drewN | apply below_drew1 | refine below_set ?_ GE313.out) | exact HB.out))) : w.heap.size ≤ gb330))
             have n7_ := Aside0.mk ((by rw [hg]; exact (below_size (by repeat (first | (with_reducible first | exact HB.out | apply below_alloc | apply pw_below_drewN | apply below_drew1 | refine below_set ?_ GE313.out) | exact HB.out))) : w.heap.size ≤ gb330))
             have n8_ := Aside0.mk ((by rw [hg]; exact Nat.ne_of_lt (blk_lt (g := gb313) (o := .cells #[.int .u32 ((rd_T58 l0 x19_1).f0), .int .u32 ((rd_T58 l0 x19_1).f1), .slice A312_2 ((rd_T58 l0 x19_1).f2).length c312_2, .bool ((rd_T58 l0 x19_1).f3), .int .i64 ((rd_T58 l0 x19_1).f4), .int .i64 ((rd_T58 l0 x19_1).f5), .int .i64 ((rd_T58 l0 x19_1).f6)] 58 (0, 0)) (by (with_reducible repeat (first | refine blk_drewN ?_ _ | refine blk_drew ?_ | refine blk_alloc ?_ _)); exact BK313.out)) : gb313 ≠ gb330))
             have n9_ := Aside0.mk ((by rw [hg]; exact Nat.ne_of_gt (blk_lt (g := gb313) (o := .cells #[.int .u32 ((rd_T58 l0 x19_1).f0), .int .u32 ((rd_T58 l0 x19_1).f1), .slice A312_2 ((rd_T58 l0 x19_1).f2).length c312_2, .bool ((rd_T58 l0 x19_1).f3), .int .i64 ((rd_T58 l0 x19_1).f4), .int .i64 ((rd_T58 l0 x19_1).f5), .int .i64 ((rd_T58 l0 x19_1).f6)] 58 (0, 0)) (by (with_reducible repeat (first | refine blk_drewN ?_ _ | refine blk_drew ?_ | refine blk_alloc ?_ _)); exact BK313.out)) : gb330 ≠ gb313))
             clear HO_7
             clear HO_8
             clear HO_11
             clear BK313
             clear HB
             have HO_7 := n0_
             have HO_8 := n1_
             have HO_11 := n2_
             have BK313 := n3_
             have HB := n4_
             have BK330 := n5_
             have GW330 := n6_
             have GE330 := n7_
             have NB313_330 := n8_
             have NB330_313 := n9_
             clear n0_ n1_ n2_ n3_ n4_ n5_ n6_ n7_ n8_ n9_
             clear hb hbox hg
             refine hK.out _ _ ⟨(blk_cell BK313.out 0).trans rfl, (blk_cell BK313.out 1).trans rfl, (blk_cell BK313.out 2).trans rfl, (blk_cell BK313.out 3).trans rfl, (blk_cell BK313.out 4).trans rfl, (blk_cell BK313.out 5).trans rfl, (blk_cell BK313.out 6).trans rfl⟩ (fun hHeld => ?_)
             clear hK K
             refine norm_ (a' := ?_) ?_ ?_
             rotate_left
             ·
              show Act.put _ (some 14) _ = _
              simp only [Act.put, List.setIfInBounds_toArray, List.set_cons_zero, List.set_cons_succ, i64_w, i32_w]
              rfl
             refine one_ (i := 7) (N := some 52) #[true, true, true, true, true, true, true, true, false, true, false] rfl rfl (one_of HT_.out (by kernel_rfl)) (by decide) (fun K hK => ?_)
             refine goes_ Tryd.func47 (by kernel_rfl) rfl #[.int .u32 ((rd_T58 l0 x19_1).f1)] (by rfl) rfl rfl (by (try simp only [List.map_toArray, List.map_cons, List.map_nil]); first | done | rfl | (simp only [List.length_drop, List.length_take]; rfl)) ?_
             with_reducible refine (cohousinglaw22_residue.calls ((rd_T58 l0 x19_1).f1) t329 _ A25.out).mono ?_
             rintro e w' ⟨rfl, ⟨nd, rfl⟩⟩
             refine ⟨_, rfl, ?_⟩
             refine hK.out _ _ ⟨(blk_cell BK313.out 0).trans rfl, (blk_cell BK313.out 1).trans rfl, (blk_cell BK313.out 2).trans rfl, (blk_cell BK313.out 3).trans rfl, (blk_cell BK313.out 4).trans rfl, (blk_cell BK313.out 5).trans rfl, (blk_cell BK313.out 6).trans rfl⟩ (fun hHeld => ?_)
             clear hK K
             refine norm_ (a' := ?_) ?_ ?_
             rotate_left
             ·
              show Act.put _ (some 52) _ = _
              simp only [Act.put, List.setIfInBounds_toArray, List.set_cons_zero, List.set_cons_succ, i64_w, i32_w]
              rfl
             refine pure_ (i := 8) (N := some 53) (v := ?_) (a' := ?_) #[true, true, true, true, true, true, true, true, true, true, false] rfl rfl (any_of HT_.out (by kernel_rfl)) (fun _ _ _ h => h) (Or.inl ⟨by rfl, ?_⟩) ?_ ?_
             rotate_left
             ·
              intro w'
              go_simp
              with_reducible rfl
             rotate_left
             ·
              simp only [Act.put, List.setIfInBounds_toArray, List.set_cons_zero, List.set_cons_succ, i64_w, i32_w]
              rfl
             exact norm_ (by simp only [putAll, Act.put, List.setIfInBounds_toArray, List.set_cons_zero, List.set_cons_succ]) (hCont (gb330) _ ⟨hHeld, (by (with_reducible repeat (first | apply Kd.R_alloc | apply Kd.R_drewN | apply Kd.R_drew)); exact HO_11.out), (by (with_reducible repeat (first | apply Kd.N_alloc | apply Kd.N_drewN | apply Kd.N_drew)); exact Kd.N_mono HO_7.out (fun _ hk => ⟨hk.1.1, ⟨hk.1.2.2.1, ⟨hk.1.2.1, ⟨hk.1.2.2.2, hk.2⟩⟩⟩⟩)), (by (with_reducible repeat (first | apply Kd.R_alloc | apply Kd.R_drewN | apply Kd.R_drew)); exact HO_8.out), (by (with_reducible repeat (first | refine blk_drewN ?_ _ | refine blk_drew ?_ | refine blk_alloc ?_ _)); exact BK313.out), (by (with_reducible repeat (first | refine blk_drewN ?_ _ | refine blk_drew ?_ | refine blk_alloc ?_ _)); exact BK330.out), GW330.out, GE330.out, NB313_330.out, NB330_313.out, (by repeat (first | (with_reducible first | exact HB.out | apply below_alloc | apply pw_below_drewN | apply below_drew1 | refine below_set ?_ GE313.out | refine below_set ?_ GE330.out) | exact HB.out))⟩)
           ·
            skip
            refine box_step ?hg (N := 14) ?hd (cs := #[.int .i64 0, .int .i64 0, .int .i64 0]) (t := 23) ?hr ?_; (case hd => rfl); (case hg => rfl); (case hr => first | (go_simp; done) | (go_simp; rfl))
            intro gb330 hg w75 hbox hb
            have n0_ := Aside0.mk (Kd.N_below (Kd.N_elderB (by (with_reducible repeat (first | apply Kd.N_alloc | apply Kd.N_drewN | apply Kd.N_drew)); exact HO_7.out) gb330 (Nat.le_of_eq hg.symm)) hb)
            have n1_ := Aside0.mk (Kd.R_below (Kd.R_elderB (by (with_reducible repeat (first | apply Kd.R_alloc | apply Kd.R_drewN | apply Kd.R_drew)); exact HO_8.out) gb330 (Nat.le_of_eq hg.symm)) hb)
            have n2_ := Aside0.mk (Kd.R_below (by (with_reducible repeat (first | apply Kd.R_alloc | apply Kd.R_drewN | apply Kd.R_drew)); exact HO_11.out) hb)
            have n3_ := Aside0.mk (blk_below (g := gb313) (o := .cells #[.int .u32 ((rd_T58 l0 x19_1).f0), .int .u32 ((rd_T58 l0 x19_1).f1), .slice A312_2 ((rd_T58 l0 x19_1).f2).length c312_2, .bool ((rd_T58 l0 x19_1).f3), .int .i64 ((rd_T58 l0 x19_1).f4), .int .i64 ((rd_T58 l0 x19_1).f5), .int .i64 ((rd_T58 l0 x19_1).f6)] 58 (0, 0)) (by (with_reducible repeat (first | refine blk_drewN ?_ _ | refine blk_drew ?_ | refine blk_alloc ?_ _)); exact BK313.out) hb)
            have n4_ := Aside0.mk (below_step (by repeat (first | (with_reducible first | exact HB.out | apply below_alloc | apply pw_below_drewN | apply below_drew1 | refine below_set ?_ GE313.out) | exact HB.out)) hb)
            have n5_ := Aside0.mk (hbox)
            have n6_ := Aside0.mk ((by rw [hg]; exact (below_size (by repeat (first | (with_reducible first | exact HB.out | apply below_alloc | apply pw_below_drewN | apply below_drew1 | refine below_set ?_ GE313.out) | exact HB.out))) : w.heap.size ≤ gb330))
            have n7_ := Aside0.mk ((by rw [hg]; exact (below_size (by repeat (first | (with_reducible first | exact HB.out | apply below_alloc | apply pw_below_drewN | apply below_drew1 | refine below_set ?_ GE313.out) | exact HB.out))) : w.heap.size ≤ gb330))
            have n8_ := Aside0.mk ((by rw [hg]; exact Nat.ne_of_lt (blk_lt (g := gb313) (o := .cells #[.int .u32 ((rd_T58 l0 x19_1).f0), .int .u32 ((rd_T58 l0 x19_1).f1), .slice A312_2 ((rd_T58 l0 x19_1).f2).length c312_2, .bool ((rd_T58 l0 x19_1).f3), .int .i64 ((rd_T58 l0 x19_1).f4), .int .i64 ((rd_T58 l0 x19_1).f5), .int .i64 ((rd_T58 l0 x19_1).f6)] 58 (0, 0)) (by (with_reducible repeat (first | refine blk_drewN ?_ _ | refine blk_drew ?_ | refine blk_alloc ?_ _)); exact BK313.out)) : gb313 ≠ gb330))
            have n9_ := Aside0.mk ((by rw [hg]; exact Nat.ne_of_gt (blk_lt (g := gb313) (o := .cells #[.int .u32 ((rd_T58 l0 x19_1).f0), .int .u32 ((rd_T58 l0 x19_1).f1), .slice A312_2 ((rd_T58 l0 x19_1).f2).length c312_2, .bool ((rd_T58 l0 x19_1).f3), .int .i64 ((rd_T58 l0 x19_1).f4), .int .i64 ((rd_T58 l0 x19_1).f5), .int .i64 ((rd_T58 l0 x19_1).f6)] 58 (0, 0)) (by (with_reducible repeat (first | refine blk_drewN ?_ _ | refine blk_drew ?_ | refine blk_alloc ?_ _)); exact BK313.out)) : gb330 ≠ gb313))
            clear HO_7
            clear HO_8
            clear HO_11
            clear BK313
            clear HB
            have HO_7 := n0_
            have HO_8 := n1_
            have HO_11 := n2_
            have BK313 := n3_
            have HB := n4_
            have BK330 := n5_
            have GW330 := n6_
            have GE330 := n7_
            have NB313_330 := n8_
            have NB330_313 := n9_
            clear n0_ n1_ n2_ n3_ n4_ n5_ n6_ n7_ n8_ n9_
            clear hb hbox hg
            refine hK.out _ _ ⟨(blk_cell BK313.out 0).trans rfl, (blk_cell BK313.out 1).trans rfl, (blk_cell BK313.out 2).trans rfl, (blk_cell BK313.out 3).trans rfl, (blk_cell BK313.out 4).trans rfl, (blk_cell BK313.out 5).trans rfl, (blk_cell BK313.out 6).trans rfl⟩ (fun hHeld => ?_)
            clear hK K
            refine norm_ (a' := ?_) ?_ ?_
            rotate_left
            ·
             show Act.put _ (some 14) _ = _
             simp only [Act.put, List.setIfInBounds_toArray, List.set_cons_zero, List.set_cons_succ, i64_w, i32_w]
             rfl
            refine one_ (i := 4) (N := some 49) #[true, true, true, true, true, true, true, false, false, true, false] rfl rfl (one_of HT_.out (by kernel_rfl)) (by decide) (fun K hK => ?_)
            refine goes_ Tryd.func47 (by kernel_rfl) rfl #[.int .u32 ((rd_T58 l0 x19_1).f0)] (by rfl) rfl rfl (by (try simp only [List.map_toArray, List.map_cons, List.map_nil]); first | done | rfl | (simp only [List.length_drop, List.length_take]; rfl)) ?_
            with_reducible refine (cohousinglaw22_residue.calls ((rd_T58 l0 x19_1).f0) t328 _ A24.out).mono ?_
            rintro e w' ⟨rfl, ⟨nd, rfl⟩⟩
            refine ⟨_, rfl, ?_⟩
            refine hK.out _ _ ⟨(blk_cell BK313.out 0).trans rfl, (blk_cell BK313.out 1).trans rfl, (blk_cell BK313.out 2).trans rfl, (blk_cell BK313.out 3).trans rfl, (blk_cell BK313.out 4).trans rfl, (blk_cell BK313.out 5).trans rfl, (blk_cell BK313.out 6).trans rfl⟩ (fun hHeld => ?_)
            clear hK K
            refine norm_ (a' := ?_) ?_ ?_
            rotate_left
            ·
             show Act.put _ (some 49) _ = _
             simp only [Act.put, List.setIfInBounds_toArray, List.set_cons_zero, List.set_cons_succ, i64_w, i32_w]
             rfl
            refine one_ (i := 7) (N := some 52) #[true, true, true, true, true, true, true, true, false, true, false] rfl rfl (one_of HT_.out (by kernel_rfl)) (by decide) (fun K hK => ?_)
            refine goes_ Tryd.func47 (by kernel_rfl) rfl #[.int .u32 ((rd_T58 l0 x19_1).f1)] (by rfl) rfl rfl (by (try simp only [List.map_toArray, List.map_cons, List.map_nil]); first | done | rfl | (simp only [List.length_drop, List.length_take]; rfl)) ?_
            with_reducible refine (cohousinglaw22_residue.calls ((rd_T58 l0 x19_1).f1) t329 _ A25.out).mono ?_
            rintro e w' ⟨rfl, ⟨nd, rfl⟩⟩
            refine ⟨_, rfl, ?_⟩
            refine hK.out _ _ ⟨(blk_cell BK313.out 0).trans rfl, (blk_cell BK313.out 1).trans rfl, (blk_cell BK313.out 2).trans rfl, (blk_cell BK313.out 3).trans rfl, (blk_cell BK313.out 4).trans rfl, (blk_cell BK313.out 5).trans rfl, (blk_cell BK313.out 6).trans rfl⟩ (fun hHeld => ?_)
            clear hK K
            refine norm_ (a' := ?_) ?_ ?_
            rotate_left
            ·
             show Act.put _ (some 52) _ = _
             simp only [Act.put, List.setIfInBounds_toArray, List.set_cons_zero, List.set_cons_succ, i64_w, i32_w]
             rfl
            refine pure_ (i := 8) (N := some 53) (v := ?_) (a' := ?_) #[true, true, true, true, true, true, true, true, true, true, false] rfl rfl (any_of HT_.out (by kernel_rfl)) (fun _ _ _ h => h) (Or.inl ⟨by rfl, ?_⟩) ?_ ?_
            rotate_left
            ·
             intro w'
             go_simp
             with_reducible rfl
            rotate_left
            ·
             simp only [Act.put, List.setIfInBounds_toArray, List.set_cons_zero, List.set_cons_succ, i64_w, i32_w]
             rfl
            exact norm_ (by simp only [putAll, Act.put, List.setIfInBounds_toArray, List.set_cons_zero, List.set_cons_succ]) (hCont (gb330) _ ⟨hHeld, (by (with_reducible repeat (first | apply Kd.R_alloc | apply Kd.R_drewN | apply Kd.R_drew)); exact HO_11.out), (by (with_reducible repeat (first | apply Kd.N_alloc | apply Kd.N_drewN | apply Kd.N_drew)); exact Kd.N_mono HO_7.out (fun _ hk => ⟨hk.1.1, ⟨hk.1.2.2.1, ⟨hk.1.2.1, ⟨hk.1.2.2.2, hk.2⟩⟩⟩⟩)), (by (with_reducible repeat (first | apply Kd.R_alloc | apply Kd.R_drewN | apply Kd.R_drew)); exact HO_8.out), (by (with_reducible repeat (first | refine blk_drewN ?_ _ | refine blk_drew ?_ | refine blk_alloc ?_ _)); exact BK313.out), (by (with_reducible repeat (first | refine blk_drewN ?_ _ | refine blk_drew ?_ | refine blk_alloc ?_ _)); exact BK330.out), GW330.out, GE330.out, NB313_330.out, NB330_313.out, (by repeat (first | (with_reducible first | exact HB.out | apply below_alloc | apply pw_below_drewN | apply below_drew1 | refine below_set ?_ GE313.out | refine below_set ?_ GE330.out) | exact HB.out))⟩)
          rintro gb330 w76 ⟨hS_, h0_, h1_, h2_, h3_, h4_, h5_, h6_, h7_, h8_, h9_⟩
          have n0_ : Aside0 (Kd.R (Kd.int .i64) 3 w76 w.heap.size (fun k_ => (w.heap.size ≤ k_)) u11 x11_2) := ⟨h0_⟩
          have n1_ : Aside0 (Kd.N k31 31 w76 w.heap.size (fun k_ => (w.heap.size ≤ k_) ∧ some k_ ≠ (u11 : Value).ownBlock ∧ some k_ ≠ (u8 : Value).ownBlock ∧ k_ ≠ gb313 ∧ k_ ≠ gb330) u7 x7_1) := ⟨h1_⟩
          have n2_ : Aside0 (Kd.R k23 23 w76 w.heap.size (fun k_ => (w.heap.size ≤ k_) ∧ k_ ≠ gb330) u8 x8_1) := ⟨h2_⟩
          have n3_ : Aside0 (w76.heap[gb313]? = some (.cells #[.int .u32 ((rd_T58 l0 x19_1).f0), .int .u32 ((rd_T58 l0 x19_1).f1), .slice A312_2 ((rd_T58 l0 x19_1).f2).length c312_2, .bool ((rd_T58 l0 x19_1).f3), .int .i64 ((rd_T58 l0 x19_1).f4), .int .i64 ((rd_T58 l0 x19_1).f5), .int .i64 ((rd_T58 l0 x19_1).f6)] 58 (0, 0))) := ⟨h3_⟩
          have n4_ : Aside0 (w76.heap[gb330]? = some (.cells #[.int .i64 0, .int .i64 0, .int .i64 0] 23 (0, 0))) := ⟨h4_⟩
          have n5_ : Aside0 (w.heap.size ≤ gb330) := ⟨h5_⟩
          have n6_ : Aside0 (w.heap.size ≤ gb330) := ⟨h6_⟩
          have n7_ : Aside0 (gb313 ≠ gb330) := ⟨h7_⟩
          have n8_ : Aside0 (gb330 ≠ gb313) := ⟨h8_⟩
          have n9_ : Aside0 (Below w.heap.size w w76) := ⟨h9_⟩
          clear HO_7
          clear HO_8
          clear HO_11
          clear BK313
          clear HB
          clear h0_ h1_ h2_ h3_ h4_ h5_ h6_ h7_ h8_ h9_
          have HO_11 := n0_
          have HO_7 := n1_
          have HO_8 := n2_
          have BK313 := n3_
          have BK330 := n4_
          have GW330 := n5_
          have GE330 := n6_
          have NB313_330 := n7_
          have NB330_313 := n8_
          have HB := n9_
          clear n0_ n1_ n2_ n3_ n4_ n5_ n6_ n7_ n8_ n9_
          have hHeld : w76.cell? ⟨gb313, 0, none⟩ = some (.int .u32 ((rd_T58 l0 x19_1).f0)) ∧ w76.cell? ⟨gb313, 1, none⟩ = some (.int .u32 ((rd_T58 l0 x19_1).f1)) ∧ w76.cell? ⟨gb313, 2, none⟩ = some (.slice A312_2 ((rd_T58 l0 x19_1).f2).length c312_2) ∧ w76.cell? ⟨gb313, 3, none⟩ = some (.bool ((rd_T58 l0 x19_1).f3)) ∧ w76.cell? ⟨gb313, 4, none⟩ = some (.int .i64 ((rd_T58 l0 x19_1).f4)) ∧ w76.cell? ⟨gb313, 5, none⟩ = some (.int .i64 ((rd_T58 l0 x19_1).f5)) ∧ w76.cell? ⟨gb313, 6, none⟩ = some (.int .i64 ((rd_T58 l0 x19_1).f6)) := hS_
          refine norm_ (a' := ?_) ?_ ?_
          rotate_left
          ·
           simp only [putAll, Act.put, List.setIfInBounds_toArray, List.set_cons_zero, List.set_cons_succ]
           rfl
          refine one_ (i := 10) (N := none) #[true, true, true, true, true, true, true, true, true, true, true] rfl rfl (one_of HT_.out (by kernel_rfl)) (by decide) (fun K hK => ?_)
          have hs77 : w76.cell? ⟨gb330, 0, none⟩ = some (.int .i64 0) := (blk_cell BK330.out 0).trans rfl
          have hfs77 := blk_frozen BK330.out 0
          have hns77_0 := NB313_330.out
          have hms77_0 := NB330_313.out
          have hs78 : w76.cell? ⟨gb330, 1, none⟩ = some (.int .i64 0) := (blk_cell BK330.out 1).trans rfl
          have hfs78 := blk_frozen BK330.out 1
          have hns78_0 := NB313_330.out
          have hms78_0 := NB330_313.out
          have hs79 : w76.cell? ⟨gb330, 2, none⟩ = some (.int .i64 0) := (blk_cell BK330.out 2).trans rfl
          have hfs79 := blk_frozen BK330.out 2
          have hns79_0 := NB313_330.out
          have hms79_0 := NB330_313.out
          refine skip_ (w1 := ?_) (by rfl) rfl ?_ ?_
          rotate_left
          ·
           go_simp
           rfl
          refine hK.out _ _ ⟨((cell_far (p := ⟨gb330, _, none⟩) NB313_330.out _).trans (((cell_far (p := ⟨gb330, _, none⟩) NB313_330.out _).trans (((cell_far (p := ⟨gb330, _, none⟩) NB313_330.out _).trans (hHeld.1)))))), ((cell_far (p := ⟨gb330, _, none⟩) NB313_330.out _).trans (((cell_far (p := ⟨gb330, _, none⟩) NB313_330.out _).trans (((cell_far (p := ⟨gb330, _, none⟩) NB313_330.out _).trans (hHeld.2.1)))))), ((cell_far (p := ⟨gb330, _, none⟩) NB313_330.out _).trans (((cell_far (p := ⟨gb330, _, none⟩) NB313_330.out _).trans (((cell_far (p := ⟨gb330, _, none⟩) NB313_330.out _).trans (hHeld.2.2.1)))))), ((cell_far (p := ⟨gb330, _, none⟩) NB313_330.out _).trans (((cell_far (p := ⟨gb330, _, none⟩) NB313_330.out _).trans (((cell_far (p := ⟨gb330, _, none⟩) NB313_330.out _).trans (hHeld.2.2.2.1)))))), ((cell_far (p := ⟨gb330, _, none⟩) NB313_330.out _).trans (((cell_far (p := ⟨gb330, _, none⟩) NB313_330.out _).trans (((cell_far (p := ⟨gb330, _, none⟩) NB313_330.out _).trans (hHeld.2.2.2.2.1)))))), ((cell_far (p := ⟨gb330, _, none⟩) NB313_330.out _).trans (((cell_far (p := ⟨gb330, _, none⟩) NB313_330.out _).trans (((cell_far (p := ⟨gb330, _, none⟩) NB313_330.out _).trans (hHeld.2.2.2.2.2.1)))))), ((cell_far (p := ⟨gb330, _, none⟩) NB313_330.out _).trans (((cell_far (p := ⟨gb330, _, none⟩) NB313_330.out _).trans (((cell_far (p := ⟨gb330, _, none⟩) NB313_330.out _).trans (hHeld.2.2.2.2.2.2))))))⟩ (fun hHeld => ?_)
          clear hK K
          refine done_ (done_of HT_.out (by kernel_rfl)) ?_
          have hnb80 := NB330_313.out
          have hnc80 := NB313_330.out
          have hcz81_0 : w76.cell? ⟨gb330, 0, none⟩ = some (.int .i64 0) := (blk_cell BK330.out 0).trans rfl
          have hcz81_1 : w76.cell? ⟨gb330, 1, none⟩ = some (.int .i64 0) := (blk_cell BK330.out 1).trans rfl
          have hcz81_2 : w76.cell? ⟨gb330, 2, none⟩ = some (.int .i64 0) := (blk_cell BK330.out 2).trans rfl
          have hfz81_0 := blk_frozen BK330.out 0
          have hfz81_1 := blk_frozen BK330.out 1
          have hfz81_2 := blk_frozen BK330.out 2
          obtain ⟨Ao82, co82, eo82⟩ := Kd.R_slice HO_11.out
          subst eo82
          try go_wp2_with (first | ((with_reducible refine gate_callee (f := 11) rfl ?_); refine goesL_ (some 59) rfl rfl Tryd.func11 (by kernel_rfl) rfl #[.agg #[.int .i64 (wrap64 (x19_1 + 1)), .int .i64 t328, .int .i64 t329], .slice Ao82 x11_2.length co82, .int .i64 (l0.length : Int)] rfl (by (try simp only [List.map_toArray, List.map_cons, List.map_nil]); first | done | rfl | (simp only [List.length_drop, List.length_take]; rfl)) ?_; (with_reducible refine (lottery_Deal.calls k2 (wrap64 (x19_1 + 1)) t328 t329 _ _ x11_2 (l0.length : Int) t331 t332 t333 t336 _ ?side1 ?side2 A26.out ?gl).mono ?_); (case gl => refine HGL.out.below ?_; repeat (first | (with_reducible first | exact HB.out | apply below_alloc | apply pw_below_drewN | apply below_drew1 | refine below_set ?_ GE313.out | refine below_set ?_ GE330.out | refine below_set ?_ GE337.out) | exact HB.out)); (case side1 => refine (Kd.R_reads' (e := 3) (base := w.heap.size) (ok := fun k_ => (w.heap.size ≤ k_)) (n := x11_2.length) (c := co82) ?_).2.2; exact (by (with_reducible repeat (first | apply Kd.R_alloc | apply Kd.R_drewN | apply Kd.R_drew)); exact (Kd.R_mono (Kd.R_far (p := ⟨gb330, 2, none⟩) (Kd.R_far (p := ⟨gb330, 1, none⟩) (Kd.R_far (p := ⟨gb330, 0, none⟩) (Kd.R_types HO_11.out BK330.out (by decide)) (fun _ hk => hk.2) (.int .i64 (wrap64 (x19_1 + 1)))) (fun _ hk => hk.2) (.int .i64 t328)) (fun _ hk => hk.2) (.int .i64 t329)) (fun _ h_ => h_.1)))); (case side2 => exact (Kd.R_reads' HO_11.out).2.1); rintro e w83 ⟨v334, rfl, ho0, hb⟩; refine ⟨_, rfl, ?_⟩; have n0_ := Aside0.mk (Kd.N_elder' (by (with_reducible repeat (first | apply Kd.N_alloc | apply Kd.N_drewN | apply Kd.N_drew)); exact (Kd.N_mono (Kd.N_far (p := ⟨gb330, 2, none⟩) (Kd.N_far (p := ⟨gb330, 1, none⟩) (Kd.N_far (p := ⟨gb330, 0, none⟩) (Kd.N_mono HO_7.out (fun k_ hk => (⟨hk, hk.2.2.2.2⟩ : _ ∧ k_ ≠ gb330))) (fun _ hk => hk.2) (.int .i64 (wrap64 (x19_1 + 1)))) (fun _ hk => hk.2) (.int .i64 t328)) (fun _ hk => hk.2) (.int .i64 t329)) (fun _ h_ => h_.1))) (Kd.R_base ho0) hb); have n1_ := Aside0.mk (Kd.R_below (by (with_reducible repeat (first | apply Kd.R_alloc | apply Kd.R_drewN | apply Kd.R_drew)); exact (Kd.R_mono (Kd.R_far (p := ⟨gb330, 2, none⟩) (Kd.R_far (p := ⟨gb330, 1, none⟩) (Kd.R_far (p := ⟨gb330, 0, none⟩) (Kd.R_mono HO_8.out (fun k_ hk => (⟨hk, hk.2⟩ : _ ∧ k_ ≠ gb330))) (fun _ hk => hk.2) (.int .i64 (wrap64 (x19_1 + 1)))) (fun _ hk => hk.2) (.int .i64 t328)) (fun _ hk => hk.2) (.int .i64 t329)) (fun _ h_ => h_.1))) hb); have n2_ := Aside0.mk (Kd.R_below (by (with_reducible repeat (first | apply Kd.R_alloc | apply Kd.R_drewN | apply Kd.R_drew)); exact (Kd.R_mono (Kd.R_far (p := ⟨gb330, 2, none⟩) (Kd.R_far (p := ⟨gb330, 1, none⟩) (Kd.R_far (p := ⟨gb330, 0, none⟩) (Kd.R_types HO_11.out BK330.out (by decide)) (fun _ hk => hk.2) (.int .i64 (wrap64 (x19_1 + 1)))) (fun _ hk => hk.2) (.int .i64 t328)) (fun _ hk => hk.2) (.int .i64 t329)) (fun _ h_ => h_.1))) hb); have n3_ := Aside0.mk (Kd.R_lower (Kd.R_newM (M := fun k_ => (w.heap.size ≤ k_)) ho0 (below_size (by repeat (first | (with_reducible first | exact HB.out | apply below_alloc | apply pw_below_drewN | apply below_drew1 | refine below_set ?_ GE313.out | refine below_set ?_ GE330.out) | exact HB.out))) (fun k_ h_ => h_)) (below_size (by repeat (first | (with_reducible first | exact HB.out | apply below_alloc | apply pw_below_drewN | apply below_drew1 | refine below_set ?_ GE313.out | refine below_set ?_ GE330.out) | exact HB.out)))); have n4_ := Aside0.mk (blk_below (g := gb313) (o := .cells #[.int .u32 ((rd_T58 l0 x19_1).f0), .int .u32 ((rd_T58 l0 x19_1).f1), .slice A312_2 ((rd_T58 l0 x19_1).f2).length c312_2, .bool ((rd_T58 l0 x19_1).f3), .int .i64 ((rd_T58 l0 x19_1).f4), .int .i64 ((rd_T58 l0 x19_1).f5), .int .i64 ((rd_T58 l0 x19_1).f6)] 58 (0, 0)) (by (with_reducible repeat (first | refine blk_drewN ?_ _ | refine blk_drew ?_ | refine blk_alloc ?_ _)); refine blk_far ?_ NB313_330.out _; (with_reducible repeat (first | refine blk_drewN ?_ _ | refine blk_drew ?_ | refine blk_alloc ?_ _)); refine blk_far ?_ NB313_330.out _; (with_reducible repeat (first | refine blk_drewN ?_ _ | refine blk_drew ?_ | refine blk_alloc ?_ _)); refine blk_far ?_ NB313_330.out _; (with_reducible repeat (first | refine blk_drewN ?_ _ | refine blk_drew ?_ | refine blk_alloc ?_ _)); exact BK313.out) hb); have n5_ := Aside0.mk (blk_below (g := gb330) (o := .cells #[.int .i64 (wrap64 (x19_1 + 1)), .int .i64 t328, .int .i64 t329] 23 (0, 0)) (by (with_reducible repeat (first | refine blk_drewN ?_ _ | refine blk_drew ?_ | refine blk_alloc ?_ _)); refine blk_put (cs := #[.int .i64 (wrap64 (x19_1 + 1)), .int .i64 t328, .int .i64 0]) ?_ 2 _ rfl; (with_reducible repeat (first | refine blk_drewN ?_ _ | refine blk_drew ?_ | refine blk_alloc ?_ _)); refine blk_put (cs := #[.int .i64 (wrap64 (x19_1 + 1)), .int .i64 0, .int .i64 0]) ?_ 1 _ rfl; (with_reducible repeat (first | refine blk_drewN ?_ _ | refine blk_drew ?_ | refine blk_alloc ?_ _)); refine blk_put (cs := #[.int .i64 0, .int .i64 0, .int .i64 0]) ?_ 0 _ rfl; (with_reducible repeat (first | refine blk_drewN ?_ _ | refine blk_drew ?_ | refine blk_alloc ?_ _)); exact BK330.out) hb); have n6_ := Aside0.mk (below_step (by repeat (first | (with_reducible first | exact HB.out | apply below_alloc | apply pw_below_drewN | apply below_drew1 | refine below_set ?_ GE313.out | refine below_set ?_ GE330.out) | exact HB.out)) hb); clear HO_7; clear HO_8; clear HO_11; clear BK313; clear BK330; clear HB; have HO_7 := n0_; have HO_8 := n1_; have HO_11 := n2_; have HO335 := n3_; have BK313 := n4_; have BK330 := n5_; have HB := n6_; clear n0_ n1_ n2_ n3_ n4_ n5_ n6_; (try clear hb); (try clear hb2); (try clear hk); (try clear hi); (try clear ho0)) | ((with_reducible refine gate_dst (N := 15) rfl ?_); (try (refine gate_guard (by rfl) ?_; dsimp only)); refine box_event ?hg (N := 15) ?hd (cs := #[.int .i64 0, .int .u64 0, .slice none 0 0]) (t := 31) ?hr ?_; (case hd => rfl); (case hg => rfl); (case hr => first | (go_simp; done) | (go_simp; rfl)); intro gb337 hg w84 hbox hb; have n0_ := Aside0.mk (Kd.N_below (Kd.N_elderB (by (with_reducible repeat (first | apply Kd.N_alloc | apply Kd.N_drewN | apply Kd.N_drew)); exact HO_7.out) gb337 (Nat.le_of_eq hg.symm)) hb); have n1_ := Aside0.mk (Kd.R_below (by (with_reducible repeat (first | apply Kd.R_alloc | apply Kd.R_drewN | apply Kd.R_drew)); exact HO_8.out) hb); have n2_ := Aside0.mk (Kd.R_below (by (with_reducible repeat (first | apply Kd.R_alloc | apply Kd.R_drewN | apply Kd.R_drew)); exact HO_11.out) hb); have n3_ := Aside0.mk (Kd.R_below (by (with_reducible repeat (first | apply Kd.R_alloc | apply Kd.R_drewN | apply Kd.R_drew)); exact HO335.out) hb); have n4_ := Aside0.mk (blk_below (g := gb313) (o := .cells #[.int .u32 ((rd_T58 l0 x19_1).f0), .int .u32 ((rd_T58 l0 x19_1).f1), .slice A312_2 ((rd_T58 l0 x19_1).f2).length c312_2, .bool ((rd_T58 l0 x19_1).f3), .int .i64 ((rd_T58 l0 x19_1).f4), .int .i64 ((rd_T58 l0 x19_1).f5), .int .i64 ((rd_T58 l0 x19_1).f6)] 58 (0, 0)) (by (with_reducible repeat (first | refine blk_drewN ?_ _ | refine blk_drew ?_ | refine blk_alloc ?_ _)); exact BK313.out) hb); have n5_ := Aside0.mk (blk_below (g := gb330) (o := .cells #[.int .i64 (wrap64 (x19_1 + 1)), .int .i64 t328, .int .i64 t329] 23 (0, 0)) (by (with_reducible repeat (first | refine blk_drewN ?_ _ | refine blk_drew ?_ | refine blk_alloc ?_ _)); exact BK330.out) hb); have n6_ := Aside0.mk (below_step (by repeat (first | (with_reducible first | exact HB.out | apply below_alloc | apply pw_below_drewN | apply below_drew1 | refine below_set ?_ GE313.out | refine below_set ?_ GE330.out) | exact HB.out)) hb); have n7_ := Aside0.mk (hbox); have n8_ := Aside0.mk ((by rw [hg]; exact (below_size (by repeat (first | (with_reducible first | exact HB.out | apply below_alloc | apply pw_below_drewN | apply below_drew1 | refine below_set ?_ GE313.out | refine below_set ?_ GE330.out) | exact HB.out))) : w.heap.size ≤ gb337)); have n9_ := Aside0.mk ((by rw [hg]; exact (below_size (by repeat (first | (with_reducible first | exact HB.out | apply below_alloc | apply pw_below_drewN | apply below_drew1 | refine below_set ?_ GE313.out | refine below_set ?_ GE330.out) | exact HB.out))) : w.heap.size ≤ gb337)); have n10_ := Aside0.mk ((by rw [hg]; exact Nat.ne_of_lt (blk_lt (g := gb313) (o := .cells #[.int .u32 ((rd_T58 l0 x19_1).f0), .int .u32 ((rd_T58 l0 x19_1).f1), .slice A312_2 ((rd_T58 l0 x19_1).f2).length c312_2, .bool ((rd_T58 l0 x19_1).f3), .int .i64 ((rd_T58 l0 x19_1).f4), .int .i64 ((rd_T58 l0 x19_1).f5), .int .i64 ((rd_T58 l0 x19_1).f6)] 58 (0, 0)) (by (with_reducible repeat (first | refine blk_drewN ?_ _ | refine blk_drew ?_ | refine blk_alloc ?_ _)); exact BK313.out)) : gb313 ≠ gb337)); have n11_ := Aside0.mk ((by rw [hg]; exact Nat.ne_of_gt (blk_lt (g := gb313) (o := .cells #[.int .u32 ((rd_T58 l0 x19_1).f0), .int .u32 ((rd_T58 l0 x19_1).f1), .slice A312_2 ((rd_T58 l0 x19_1).f2).length c312_2, .bool ((rd_T58 l0 x19_1).f3), .int .i64 ((rd_T58 l0 x19_1).f4), .int .i64 ((rd_T58 l0 x19_1).f5), .int .i64 ((rd_T58 l0 x19_1).f6)] 58 (0, 0)) (by (with_reducible repeat (first | refine blk_drewN ?_ _ | refine blk_drew ?_ | refine blk_alloc ?_ _)); exact BK313.out)) : gb337 ≠ gb313)); have n12_ := Aside0.mk ((by rw [hg]; exact Nat.ne_of_lt (blk_lt (g := gb330) (o := .cells #[.int .i64 (wrap64 (x19_1 + 1)), .int .i64 t328, .int .i64 t329] 23 (0, 0)) (by (with_reducible repeat (first | refine blk_drewN ?_ _ | refine blk_drew ?_ | refine blk_alloc ?_ _)); exact BK330.out)) : gb330 ≠ gb337)); have n13_ := Aside0.mk ((by rw [hg]; exact Nat.ne_of_gt (blk_lt (g := gb330) (o := .cells #[.int .i64 (wrap64 (x19_1 + 1)), .int .i64 t328, .int .i64 t329] 23 (0, 0)) (by (with_reducible repeat (first | refine blk_drewN ?_ _ | refine blk_drew ?_ | refine blk_alloc ?_ _)); exact BK330.out)) : gb337 ≠ gb330)); clear HO_7; clear HO_8; clear HO_11; clear HO335; clear BK313; clear BK330; clear HB; have HO_7 := n0_; have HO_8 := n1_; have HO_11 := n2_; have HO335 := n3_; have BK313 := n4_; have BK330 := n5_; have HB := n6_; have BK337 := n7_; have GW337 := n8_; have GE337 := n9_; have NB313_337 := n10_; have NB337_313 := n11_; have NB330_337 := n12_; have NB337_330 := n13_; clear n0_ n1_ n2_ n3_ n4_ n5_ n6_ n7_ n8_ n9_ n10_ n11_ n12_ n13_; clear hb hbox hg; have hnb85 := NB337_313.out; have hnc85 := NB313_337.out; have hnb86 := NB337_330.out; have hnc86 := NB330_337.out; have hcz87_0 : w84.cell? ⟨gb337, 0, none⟩ = some (.int .i64 0) := (blk_cell BK337.out 0).trans rfl; have hcz87_1 : w84.cell? ⟨gb337, 1, none⟩ = some (.int .u64 0) := (blk_cell BK337.out 1).trans rfl; have hcz87_2 : w84.cell? ⟨gb337, 2, none⟩ = some (.slice none 0 0) := (blk_cell BK337.out 2).trans rfl; have hfz87_0 := blk_frozen BK337.out 0; have hfz87_1 := blk_frozen BK337.out 1; have hfz87_2 := blk_frozen BK337.out 2; obtain ⟨Ao88, co88, eo88⟩ := Kd.R_slice HO335.out; subst eo88))
          go_ret3
          exact ⟨_, _, by first | rfl | (simp [errW_none, errW_some] <;> rfl) | (simp [*, errW_none, errW_some] <;> rfl), by first | exact Kd.S_nil _ _ _ _ _ | exact Kd.N_nil _ _ _ _ _ | exact Kd.V_nil _ _ _ _ _ | exact Kd.Q_nil _ _ _ _ _ | exact Kd.R_nil _ _ _ _ _, by first | exact Kd.R_nil _ _ _ _ _ | exact Kd.N_nil _ _ _ _ _ | exact Kd.V_nil _ _ _ _ _ | exact Kd.Q_nil _ _ _ _ _ | exact Kd.S_nil _ _ _ _ _, by repeat (first | (with_reducible first | exact HB.out | apply below_alloc | apply pw_below_drewN | apply below_drew1 | refine below_set ?_ GE313.out | refine below_set ?_ GE330.out | refine below_set ?_ GE337.out) | exact HB.out)⟩
     ·
      rw [if_neg c5] at H
      exact absurd H (by simp)
    ·
     rw [if_neg c4] at H
     exact absurd H (by simp)
   ·
    rw [if_neg c3] at H
    have c3b0 : decide (x19_1 < (l0.length : Int)) = false := decide_eq_false c3
    clear c3
    simp only [Option.some.injEq, Prod.mk.injEq] at H
    obtain ⟨rfl, rfl, rfl⟩ := H
    go_wp2
    go_ret3
    exact ⟨_, _, by first | rfl | (simp [errW_none, errW_some] <;> rfl) | (simp [*, errW_none, errW_some] <;> rfl), by (with_reducible repeat (first | apply Kd.N_alloc | apply Kd.N_drewN | apply Kd.N_drew)); exact HO_7.out, by (with_reducible repeat (first | apply Kd.R_alloc | apply Kd.R_drewN | apply Kd.R_drew)); exact HO_8.out, by repeat (first | (with_reducible first | exact HB.out | apply below_alloc | apply pw_below_drewN | apply below_drew1) | exact HB.out)⟩

end Go.Proofs.YtfkeelccnomjkaaDoor.P
