/- Lemmas, readings of functions as plain Lean functions and contracts of functions of the program, for the claimed theorem; each one's conditions stand in its statement. -/
import Derived.Test.YtjgnkhfgmpaljaaQTF7
import Derived.Test.YtjgnkhfgmpaljaaQTF9
import Derived.Test.YtjgnkhfgmpaljaaQTF24
namespace Go.Proofs.Ytjgnkhfgmpaljaa.P
open Go.RowKit Go.Proofs.YtjgnkhfgmpaljaaW.PrintWords Go.Proofs.YtjgnkhfgmpaljaaW.PrintLast Go.Proofs.YtjgnkhfgmpaljaaW.PrintMore
attribute [local go_sem] max2_int min2_int max_two min_two max_three min_three max_four min_four   -- for this text's walks alone
set_option linter.unusedVariables false
set_option linter.unusedSimpArgs false

mutual
def cohousinglaw24_TradeFirst.j0 : Nat → List Int → Bool → Bool → List (S53) → List (S41) → Option (Bool)
 | 0, _, _, _, _, _ => none
 | k + 1, x1, x5, x23, x405000, x405001 => if x23 = true then (some x5) else ((cohousinglaw24_solved.f k x405000 x405001 x1).bind fun bt407 => (if bt407.2 = true then (if 0 < (x1.length : Int) then (if 0 ≤ (rd x1 0) then (if (rd x1 0) < (x405001.length : Int) then ((cohousingref23_Ranking.f k ((rd_T41 x405001 (rd x1 0)).f0) ((rd_T41 x405001 (rd x1 0)).f1) ((rd_T41 x405001 (rd x1 0)).f2)).bind fun t413 => (cohousinglaw24_TradeFirst.l0 k x5 bt407.1 (rd x1 0) t413 x405000 (x405000.length : Int) 0 x405000 x405001)) else (none)) else (none)) else (none)) else (some false)))
def cohousinglaw24_TradeFirst.l0 : Nat → Bool → List Int → Int → List Int → List (S53) → Int → Int → List (S53) → List (S41) → Option (Bool)
 | 0, _, _, _, _, _, _, _, _, _ => none
 | k + 1, x5, x6, x8, x9, x43, x44, x45, x405000, x405001 => if x45 < x44 then (if 0 ≤ x45 then (if x45 < (x43.length : Int) then ((cohousingref23_In.f k x9 ((rd_T53 x43 x45).f0)).bind fun t418 => ((cohousinglaw24_occupied.f k x405000 x405001 ((rd_T53 x43 x45).f0)).bind fun t419 => (if t419 = true then (cohousinglaw24_TradeFirst.l0 k x5 x6 x8 x9 x43 x44 (wrap64 (x45 + 1)) x405000 x405001) else (if t418 ≥ 0 then (if 0 ≤ x8 then (if x8 < (x6.length : Int) then ((cohousingref23_In.f k x9 (rd x6 x8)).bind fun t421 => (if t418 < t421 then (some false) else (cohousinglaw24_TradeFirst.l0 k x5 x6 x8 x9 x43 x44 (wrap64 (x45 + 1)) x405000 x405001))) else (none)) else (none)) else (cohousinglaw24_TradeFirst.l0 k x5 x6 x8 x9 x43 x44 (wrap64 (x45 + 1)) x405000 x405001))))) else (none)) else (none)) else (some x5)
end
def cohousinglaw24_TradeFirst.f (k : Nat) (l0_0 : List (S53)) (l0_1 : List (S41)) (l1 : List Int) : Option (Bool) := (cohousinglaw24_head.f).bind fun t405 => ((cohousinglaw24_usable.f k l0_0 l0_1 l1).bind fun t406 => (if t406 = true then (cohousinglaw24_TradeFirst.j0 k l1 t405 ((l0_1.length : Int) == 0) l0_0 l0_1) else (cohousinglaw24_TradeFirst.j0 k l1 t405 true l0_0 l0_1)))
theorem cohousinglaw24_TradeFirst.mono_l : ∀ k, (∀ y0 y1 y2 y3 y4, LeO (cohousinglaw24_TradeFirst.j0 k y0 y1 y2 y3 y4) (cohousinglaw24_TradeFirst.j0 (k + 1) y0 y1 y2 y3 y4)) ∧ (∀ y0 y1 y2 y3 y4 y5 y6 y7 y8, LeO (cohousinglaw24_TradeFirst.l0 k y0 y1 y2 y3 y4 y5 y6 y7 y8) (cohousinglaw24_TradeFirst.l0 (k + 1) y0 y1 y2 y3 y4 y5 y6 y7 y8))
 | 0 => ⟨fun _ _ _ _ _ r h => by simp [cohousinglaw24_TradeFirst.j0] at h, fun _ _ _ _ _ _ _ _ _ r h => by simp [cohousinglaw24_TradeFirst.l0] at h⟩
 | k + 1 => by
  obtain ⟨ih0, ih1⟩ := cohousinglaw24_TradeFirst.mono_l k
  refine ⟨?_, ?_⟩
  ·
   intro y0 y1 y2 y3 y4
   unfold cohousinglaw24_TradeFirst.j0
   repeat' first
   | (with_reducible exact ih0 _ _ _ _ _)
   | (with_reducible exact ih1 _ _ _ _ _ _ _ _ _)
   | (with_reducible exact cohousinglaw24_occupied.mono _ _ _ _)
   | (with_reducible exact cohousinglaw24_solved.mono _ _ _ _)
   | (with_reducible exact cohousinglaw24_usable.mono _ _ _ _)
   | (with_reducible exact cohousingref23_In.mono _ _ _)
   | (with_reducible exact cohousingref23_Ranking.mono _ _ _ _)
   | (with_reducible exact LeO.refl _)
   | (with_reducible exact LeO.none _)
   | (with_reducible refine LeO.ite ?_ ?_)
   | (with_reducible refine LeO.bind ?_ (fun _ => ?_))
   | exact ih0 _ _ _ _ _
   | exact ih1 _ _ _ _ _ _ _ _ _
   | exact cohousinglaw24_occupied.mono _ _ _ _
   | exact cohousinglaw24_solved.mono _ _ _ _
   | exact cohousinglaw24_usable.mono _ _ _ _
   | exact cohousingref23_In.mono _ _ _
   | exact cohousingref23_Ranking.mono _ _ _ _
   | exact LeO.none _
   | refine LeO.ite ?_ ?_
   | refine LeO.bind ?_ (fun _ => ?_)
  ·
   intro y0 y1 y2 y3 y4 y5 y6 y7 y8
   unfold cohousinglaw24_TradeFirst.l0
   repeat' first
   | (with_reducible exact ih0 _ _ _ _ _)
   | (with_reducible exact ih1 _ _ _ _ _ _ _ _ _)
   | (with_reducible exact cohousinglaw24_occupied.mono _ _ _ _)
   | (with_reducible exact cohousinglaw24_solved.mono _ _ _ _)
   | (with_reducible exact cohousinglaw24_usable.mono _ _ _ _)
   | (with_reducible exact cohousingref23_In.mono _ _ _)
   | (with_reducible exact cohousingref23_Ranking.mono _ _ _ _)
   | (with_reducible exact LeO.refl _)
   | (with_reducible exact LeO.none _)
   | (with_reducible refine LeO.ite ?_ ?_)
   | (with_reducible refine LeO.bind ?_ (fun _ => ?_))
   | exact ih0 _ _ _ _ _
   | exact ih1 _ _ _ _ _ _ _ _ _
   | exact cohousinglaw24_occupied.mono _ _ _ _
   | exact cohousinglaw24_solved.mono _ _ _ _
   | exact cohousinglaw24_usable.mono _ _ _ _
   | exact cohousingref23_In.mono _ _ _
   | exact cohousingref23_Ranking.mono _ _ _ _
   | exact LeO.none _
   | refine LeO.ite ?_ ?_
   | refine LeO.bind ?_ (fun _ => ?_)
theorem cohousinglaw24_TradeFirst.mono : ∀ a0 a1 a2 k, LeO (cohousinglaw24_TradeFirst.f k a0 a1 a2) (cohousinglaw24_TradeFirst.f (k + 1) a0 a1 a2) := by
 intro a0 a1 a2 k
 obtain ⟨ih0, ih1⟩ := cohousinglaw24_TradeFirst.mono_l k
 unfold cohousinglaw24_TradeFirst.f
 repeat' first
   | (with_reducible exact ih0 _ _ _ _ _)
   | (with_reducible exact ih1 _ _ _ _ _ _ _ _ _)
   | (with_reducible exact cohousinglaw24_occupied.mono _ _ _ _)
   | (with_reducible exact cohousinglaw24_solved.mono _ _ _ _)
   | (with_reducible exact cohousinglaw24_usable.mono _ _ _ _)
   | (with_reducible exact cohousingref23_In.mono _ _ _)
   | (with_reducible exact cohousingref23_Ranking.mono _ _ _ _)
   | (with_reducible exact LeO.refl _)
   | (with_reducible exact LeO.none _)
   | (with_reducible refine LeO.ite ?_ ?_)
   | (with_reducible refine LeO.bind ?_ (fun _ => ?_))
   | exact ih0 _ _ _ _ _
   | exact ih1 _ _ _ _ _ _ _ _ _
   | exact cohousinglaw24_occupied.mono _ _ _ _
   | exact cohousinglaw24_solved.mono _ _ _ _
   | exact cohousinglaw24_usable.mono _ _ _ _
   | exact cohousingref23_In.mono _ _ _
   | exact cohousingref23_Ranking.mono _ _ _ _
   | exact LeO.none _
   | refine LeO.ite ?_ ?_
   | refine LeO.bind ?_ (fun _ => ?_)
set_option maxHeartbeats 8000000 in
set_option maxRecDepth 100000 in
theorem cohousinglaw24_TradeFirst.calls (k : Nat) (A0_0 : Option Addr) (c0_0 : Nat) (l0_0 : List (S53)) (A0_1 : Option Addr) (c0_1 : Nat) (l0_1 : List (S41)) (A1 : Option Addr) (c1 : Nat) (l1 : List Int) (r : Bool) (w : World) (hr0_0 : Kd.C k53 w A0_0 l0_0.length l0_0) (hc0_0 : l0_0.length ≤ c0_0) (hr0_1 : Kd.C k41 w A0_1 l0_1.length l0_1) (hc0_1 : l0_1.length ≤ c0_1) (hr1 : Kd.C (Kd.int .i64) w A1 l1.length l1) (hc1 : l1.length ≤ c1) (h : cohousinglaw24_TradeFirst.f k l0_0 l0_1 l1 = some r) :
  Calls Try.prog 9 #[.agg #[.slice A0_0 l0_0.length c0_0, .slice A0_1 l0_1.length c0_1], .slice A1 l1.length c1] w fun e w' => e = .returned (.bool r) ∧ Below w.heap.size w w' := by
 have hu25 := Try.underlying25
 have hu41 := Try.underlying41
 have hu53 := Try.underlying53
 have HR0_0 := Aside0.mk hr0_0
 have HC0_0 := Aside0.mk hc0_0
 clear hr0_0 hc0_0
 have HR0_1 := Aside0.mk hr0_1
 have HC0_1 := Aside0.mk hc0_1
 clear hr0_1 hc0_1
 have HR1 := Aside0.mk hr1
 have HC1 := Aside0.mk hc1
 clear hr1 hc1
 have HB := Aside0.mk (Below.refl w.heap.size w)
 have H : ((cohousinglaw24_head.f).bind fun t405 => ((cohousinglaw24_usable.f k l0_0 l0_1 l1).bind fun t406 => (if t406 = true then (cohousinglaw24_TradeFirst.j0 k l1 t405 ((l0_1.length : Int) == 0) l0_0 l0_1) else (cohousinglaw24_TradeFirst.j0 k l1 t405 true l0_0 l0_1)))) = some r := h
 clear h
 replace H := Option.bind_eq_some_iff.mp H
 obtain ⟨t405, A30, H⟩ := H
 replace H : ((cohousinglaw24_usable.f k l0_0 l0_1 l1).bind fun t406 => (if t406 = true then (cohousinglaw24_TradeFirst.j0 k l1 t405 ((l0_1.length : Int) == 0) l0_0 l0_1) else (cohousinglaw24_TradeFirst.j0 k l1 t405 true l0_0 l0_1))) = some r := H
 have A3 := Aside0.mk A30
 clear A30
 have HC4 := Aside0.mk H
 clear H
 go_enter Try.func9, Try.ntmps9
 go_upto_region 2 with (first | ((with_reducible refine gate_dst (N := 2) rfl ?_); (try (refine gate_guard (by rfl) ?_; dsimp only)); refine box_event ?hg (N := 2) ?hd (cs := #[.slice A0_0 l0_0.length c0_0, .slice A0_1 l0_1.length c0_1]) (t := 25) ?hr ?_; (case hd => rfl); (case hg => rfl); (case hr => first | (go_simp; done) | (go_simp; rfl)); intro gb404 hg w5 hbox hb; have n0_ := Aside0.mk (below_step (by repeat (first | (with_reducible first | exact HB.out | apply below_alloc | apply pw_below_drewN | apply below_drew1) | exact HB.out)) hb); have n1_ := Aside0.mk (hbox); have n2_ := Aside0.mk ((by rw [hg]; exact (below_size (by repeat (first | (with_reducible first | exact HB.out | apply below_alloc | apply pw_below_drewN | apply below_drew1) | exact HB.out))) : w.heap.size ≤ gb404)); have n3_ := Aside0.mk ((by rw [hg]; exact (below_size (by repeat (first | (with_reducible first | exact HB.out | apply below_alloc | apply pw_below_drewN | apply below_drew1) | exact HB.out))) : w.heap.size ≤ gb404)); clear HB; have HB := n0_; have BK404 := n1_; have GW404 := n2_; have GE404 := n3_; clear n0_ n1_ n2_ n3_; clear hb hbox hg) | ((with_reducible refine gate_callee (f := 16) rfl ?_); refine goesL_ (some 13) rfl rfl Try.func16 (by kernel_rfl) rfl #[] rfl (by (try simp only [List.map_toArray, List.map_cons, List.map_nil]); first | done | rfl | (simp only [List.length_drop, List.length_take]; rfl)) ?_; (with_reducible refine (cohousinglaw24_head.calls  t405 _ A3.out).mono ?_); rintro e w6 ⟨rfl, hb⟩; refine ⟨_, rfl, ?_⟩; have n0_ := Aside0.mk (blk_below (g := gb404) (o := .cells #[.slice A0_0 l0_0.length c0_0, .slice A0_1 l0_1.length c0_1] 25 (0, 0)) (by (with_reducible repeat (first | refine blk_drewN ?_ _ | refine blk_drew ?_ | refine blk_alloc ?_ _)); exact BK404.out) hb); have n1_ := Aside0.mk (below_step (by repeat (first | (with_reducible first | exact HB.out | apply below_alloc | apply pw_below_drewN | apply below_drew1 | refine below_set ?_ GE404.out) | exact HB.out)) hb); clear BK404; clear HB; have BK404 := n0_; have HB := n1_; clear n0_ n1_; (try clear hb); (try clear hb2); (try clear hk); (try clear hi)))
 (try simp only [Act.put, List.setIfInBounds_toArray, List.set_cons_zero, List.set_cons_succ])
 go_cut [23] (fun v23 wc => ∃ (kq : Nat) (x23_3 : Bool), v23 = .bool x23_3 ∧ Aside0 (cohousinglaw24_TradeFirst.j0 kq l1 t405 x23_3 l0_0 l0_1 = some r) ∧ Aside0 (kq ≤ k) ∧ Aside0 (wc.heap[gb404]? = some (.cells #[(.slice A0_0 l0_0.length c0_0), (.slice A0_1 l0_1.length c0_1)] 25 (0, 0))) ∧ Aside0 (Below w.heap.size w wc))
 case first =>
  have H := HC4.out
  clear HC4
  replace H := Option.bind_eq_some_iff.mp H
  obtain ⟨t406, A70, H⟩ := H
  replace H : (if t406 = true then (cohousinglaw24_TradeFirst.j0 k l1 t405 ((l0_1.length : Int) == 0) l0_0 l0_1) else (cohousinglaw24_TradeFirst.j0 k l1 t405 true l0_0 l0_1)) = some r := H
  have A7 := Aside0.mk A70
  clear A70
  by_cases c8 : t406 = true
  ·
   subst c8
   have H1 : (cohousinglaw24_TradeFirst.j0 k l1 t405 ((l0_1.length : Int) == 0) l0_0 l0_1) = some r := by rw [if_pos rfl] at H; exact H
   clear H
   have H := H1
   clear H1
   have H' := Aside0.mk H
   clear H
   have hcz9_0 : w6.cell? ⟨gb404, 0, none⟩ = some (.slice A0_0 l0_0.length c0_0) := (blk_cell BK404.out 0).trans rfl
   have hcz9_1 : w6.cell? ⟨gb404, 1, none⟩ = some (.slice A0_1 l0_1.length c0_1) := (blk_cell BK404.out 1).trans rfl
   have hfz9_0 := blk_frozen BK404.out 0
   have hfz9_1 := blk_frozen BK404.out 1
   go_wp2_with (first | ((with_reducible refine gate_callee (f := 22) rfl ?_); refine goesL_ (some 16) rfl rfl Try.func22 (by kernel_rfl) rfl #[.agg #[.slice A0_0 l0_0.length c0_0, .slice A0_1 l0_1.length c0_1], .slice A1 l1.length c1] rfl (by (try simp only [List.map_toArray, List.map_cons, List.map_nil]); first | done | rfl | (simp only [List.length_drop, List.length_take]; rfl)) ?_; (with_reducible refine (cohousinglaw24_usable.calls k _ _ l0_0 _ _ l0_1 _ _ l1 true _ ?side1 ?side2 ?side3 ?side4 ?side5 ?side6 A7.out).mono ?_); (case side1 => repeat (first | exact (Kd.C_below HR0_0.out HB.out) | (with_reducible refine Kd.C_alloc ?_ _) | (with_reducible refine Kd.C_drewN ?_ _) | (with_reducible refine Kd.C_drew ?_))); (case side2 => exact HC0_0.out); (case side3 => repeat (first | exact (Kd.C_below HR0_1.out HB.out) | (with_reducible refine Kd.C_alloc ?_ _) | (with_reducible refine Kd.C_drewN ?_ _) | (with_reducible refine Kd.C_drew ?_))); (case side4 => exact HC0_1.out); (case side5 => repeat (first | exact (Kd.C_below HR1.out HB.out) | (with_reducible refine Kd.C_alloc ?_ _) | (with_reducible refine Kd.C_drewN ?_ _) | (with_reducible refine Kd.C_drew ?_))); (case side6 => exact HC1.out); rintro e w10 ⟨rfl, hb⟩; refine ⟨_, rfl, ?_⟩; have n0_ := Aside0.mk (blk_below (g := gb404) (o := .cells #[.slice A0_0 l0_0.length c0_0, .slice A0_1 l0_1.length c0_1] 25 (0, 0)) (by (with_reducible repeat (first | refine blk_drewN ?_ _ | refine blk_drew ?_ | refine blk_alloc ?_ _)); exact BK404.out) hb); have n1_ := Aside0.mk (below_step (by repeat (first | (with_reducible first | exact HB.out | apply below_alloc | apply pw_below_drewN | apply below_drew1 | refine below_set ?_ GE404.out) | exact HB.out)) hb); clear BK404; clear HB; have BK404 := n0_; have HB := n1_; clear n0_ n1_; (try clear hb); (try clear hb2); (try clear hk); (try clear hi); have hcz11_0 : w10.cell? ⟨gb404, 0, none⟩ = some (.slice A0_0 l0_0.length c0_0) := (blk_cell BK404.out 0).trans rfl; have hcz11_1 : w10.cell? ⟨gb404, 1, none⟩ = some (.slice A0_1 l0_1.length c0_1) := (blk_cell BK404.out 1).trans rfl; have hfz11_0 := blk_frozen BK404.out 0; have hfz11_1 := blk_frozen BK404.out 1))
   go_meet
   case rel => exact ⟨_, (((l0_1.length : Int) == 0)), (by first | rfl | (simp; done) | (simp [*]; done)), H', ⟨by first | omega | exact Nat.le_refl _⟩, ⟨by (with_reducible repeat (first | refine blk_drewN ?_ _ | refine blk_drew ?_ | refine blk_alloc ?_ _)); exact BK404.out⟩, ⟨by repeat (first | (with_reducible first | exact HB.out | apply below_alloc | apply pw_below_drewN | apply below_drew1 | refine below_set ?_ GE404.out) | exact HB.out)⟩⟩
  ·
   replace c8 := Bool.eq_false_iff.mpr c8
   subst c8
   have H1 : (cohousinglaw24_TradeFirst.j0 k l1 t405 true l0_0 l0_1) = some r := by rw [if_neg (show ¬ (false = true) by decide)] at H; exact H
   clear H
   have H := H1
   clear H1
   have H' := Aside0.mk H
   clear H
   have hcz12_0 : w6.cell? ⟨gb404, 0, none⟩ = some (.slice A0_0 l0_0.length c0_0) := (blk_cell BK404.out 0).trans rfl
   have hcz12_1 : w6.cell? ⟨gb404, 1, none⟩ = some (.slice A0_1 l0_1.length c0_1) := (blk_cell BK404.out 1).trans rfl
   have hfz12_0 := blk_frozen BK404.out 0
   have hfz12_1 := blk_frozen BK404.out 1
   go_wp2_with (first | ((with_reducible refine gate_callee (f := 22) rfl ?_); refine goesL_ (some 16) rfl rfl Try.func22 (by kernel_rfl) rfl #[.agg #[.slice A0_0 l0_0.length c0_0, .slice A0_1 l0_1.length c0_1], .slice A1 l1.length c1] rfl (by (try simp only [List.map_toArray, List.map_cons, List.map_nil]); first | done | rfl | (simp only [List.length_drop, List.length_take]; rfl)) ?_; (with_reducible refine (cohousinglaw24_usable.calls k _ _ l0_0 _ _ l0_1 _ _ l1 false _ ?side1 ?side2 ?side3 ?side4 ?side5 ?side6 A7.out).mono ?_); (case side1 => repeat (first | exact (Kd.C_below HR0_0.out HB.out) | (with_reducible refine Kd.C_alloc ?_ _) | (with_reducible refine Kd.C_drewN ?_ _) | (with_reducible refine Kd.C_drew ?_))); (case side2 => exact HC0_0.out); (case side3 => repeat (first | exact (Kd.C_below HR0_1.out HB.out) | (with_reducible refine Kd.C_alloc ?_ _) | (with_reducible refine Kd.C_drewN ?_ _) | (with_reducible refine Kd.C_drew ?_))); (case side4 => exact HC0_1.out); (case side5 => repeat (first | exact (Kd.C_below HR1.out HB.out) | (with_reducible refine Kd.C_alloc ?_ _) | (with_reducible refine Kd.C_drewN ?_ _) | (with_reducible refine Kd.C_drew ?_))); (case side6 => exact HC1.out); rintro e w13 ⟨rfl, hb⟩; refine ⟨_, rfl, ?_⟩; have n0_ := Aside0.mk (blk_below (g := gb404) (o := .cells #[.slice A0_0 l0_0.length c0_0, .slice A0_1 l0_1.length c0_1] 25 (0, 0)) (by (with_reducible repeat (first | refine blk_drewN ?_ _ | refine blk_drew ?_ | refine blk_alloc ?_ _)); exact BK404.out) hb); have n1_ := Aside0.mk (below_step (by repeat (first | (with_reducible first | exact HB.out | apply below_alloc | apply pw_below_drewN | apply below_drew1 | refine below_set ?_ GE404.out) | exact HB.out)) hb); clear BK404; clear HB; have BK404 := n0_; have HB := n1_; clear n0_ n1_; (try clear hb); (try clear hb2); (try clear hk); (try clear hi)))
   go_meet
   case rel => exact ⟨_, (true), (by first | rfl | (simp; done) | (simp [*]; done)), H', ⟨by first | omega | exact Nat.le_refl _⟩, ⟨by (with_reducible repeat (first | refine blk_drewN ?_ _ | refine blk_drew ?_ | refine blk_alloc ?_ _)); exact BK404.out⟩, ⟨by repeat (first | (with_reducible first | exact HB.out | apply below_alloc | apply pw_below_drewN | apply below_drew1 | refine below_set ?_ GE404.out) | exact HB.out)⟩⟩
 case rest =>
  clear HC4
  try clear c1
  try clear c2
  try clear p2
  try clear c8
  try clear c9
  try clear hcz11_0
  try clear hcz11_1
  try clear hcz12_0
  try clear hcz12_1
  try clear hcz9_0
  try clear hcz9_1
  try clear hfz11_0
  try clear hfz11_1
  try clear hfz12_0
  try clear hfz12_1
  try clear hfz9_0
  try clear hfz9_1
  obtain ⟨kq, x23_3, rfl, HA, HJ3, BK404, HB⟩ := hcut
  cases kq with
  | zero => exact absurd HA.out (by simp [cohousinglaw24_TradeFirst.j0])
  | succ kj3 =>
   have H := HA.out
   clear HA
   simp only [cohousinglaw24_TradeFirst.j0] at H
   by_cases c14 : x23_3 = true
   ·
    subst c14
    have H1 : (some t405) = some r := by rw [if_pos rfl] at H; exact H
    clear H
    have H := H1
    clear H1
    obtain rfl := Option.some.inj H
    go_wp2
    go_ret
    exact ⟨by first | rfl | (simp [errW_none, errW_some] <;> rfl) | (simp [*, errW_none, errW_some] <;> rfl), by repeat (first | (with_reducible first | exact HB.out | apply below_alloc | apply pw_below_drewN | apply below_drew1 | refine below_set ?_ GE404.out) | exact HB.out)⟩
   ·
    replace c14 := Bool.eq_false_iff.mpr c14
    subst c14
    have H1 : ((cohousinglaw24_solved.f kj3 l0_0 l0_1 l1).bind fun bt407 => (if bt407.2 = true then (if 0 < (l1.length : Int) then (if 0 ≤ (rd l1 0) then (if (rd l1 0) < (l0_1.length : Int) then ((cohousingref23_Ranking.f kj3 ((rd_T41 l0_1 (rd l1 0)).f0) ((rd_T41 l0_1 (rd l1 0)).f1) ((rd_T41 l0_1 (rd l1 0)).f2)).bind fun t413 => (cohousinglaw24_TradeFirst.l0 kj3 t405 bt407.1 (rd l1 0) t413 l0_0 (l0_0.length : Int) 0 l0_0 l0_1)) else (none)) else (none)) else (none)) else (some false))) = some r := by rw [if_neg (show ¬ (false = true) by decide)] at H; exact H
    clear H
    have H := H1
    clear H1
    replace H := Option.bind_eq_some_iff.mp H
    obtain ⟨⟨t407, t410⟩, A150, H⟩ := H
    replace H : (if t410 = true then (if 0 < (l1.length : Int) then (if 0 ≤ (rd l1 0) then (if (rd l1 0) < (l0_1.length : Int) then ((cohousingref23_Ranking.f kj3 ((rd_T41 l0_1 (rd l1 0)).f0) ((rd_T41 l0_1 (rd l1 0)).f1) ((rd_T41 l0_1 (rd l1 0)).f2)).bind fun t413 => (cohousinglaw24_TradeFirst.l0 kj3 t405 t407 (rd l1 0) t413 l0_0 (l0_0.length : Int) 0 l0_0 l0_1)) else (none)) else (none)) else (none)) else (some false)) = some r := H
    have A15 := Aside0.mk A150
    clear A150
    by_cases c16 : t410 = true
    ·
     subst c16
     have H1 : (if 0 < (l1.length : Int) then (if 0 ≤ (rd l1 0) then (if (rd l1 0) < (l0_1.length : Int) then ((cohousingref23_Ranking.f kj3 ((rd_T41 l0_1 (rd l1 0)).f0) ((rd_T41 l0_1 (rd l1 0)).f1) ((rd_T41 l0_1 (rd l1 0)).f2)).bind fun t413 => (cohousinglaw24_TradeFirst.l0 kj3 t405 t407 (rd l1 0) t413 l0_0 (l0_0.length : Int) 0 l0_0 l0_1)) else (none)) else (none)) else (none)) = some r := by rw [if_pos rfl] at H; exact H
     clear H
     have H := H1
     clear H1
     by_cases c17 : 0 < (l1.length : Int)
     ·
      rw [if_pos c17] at H
      have c17b0 : decide (0 < (l1.length : Int)) = true := decide_eq_true c17
      have c17b1 : decide (0 < l1.length) = true := decide_eq_true (by omega)
      clear c17
      by_cases c18 : 0 ≤ (rd l1 0)
      ·
       rw [if_pos c18] at H
       have c18b0 : decide (0 ≤ (rd l1 0)) = true := decide_eq_true c18
       clear c18
       by_cases c19 : (rd l1 0) < (l0_1.length : Int)
       ·
        rw [if_pos c19] at H
        have c19b0 : decide ((rd l1 0) < (l0_1.length : Int)) = true := decide_eq_true c19
        clear c19
        replace H := Option.bind_eq_some_iff.mp H
        obtain ⟨t413, A200, H⟩ := H
        replace H : (cohousinglaw24_TradeFirst.l0 kj3 t405 t407 (rd l1 0) t413 l0_0 (l0_0.length : Int) 0 l0_0 l0_1) = some r := H
        have A20 := Aside0.mk A200
        clear A200
        have H' := Aside0.mk H
        clear H
        have hcz21_0 : wc.cell? ⟨gb404, 0, none⟩ = some (.slice A0_0 l0_0.length c0_0) := (blk_cell BK404.out 0).trans rfl
        have hcz21_1 : wc.cell? ⟨gb404, 1, none⟩ = some (.slice A0_1 l0_1.length c0_1) := (blk_cell BK404.out 1).trans rfl
        have hfz21_0 := blk_frozen BK404.out 0
        have hfz21_1 := blk_frozen BK404.out 1
        go_wp2_with (first | ((with_reducible refine gate_callee (f := 27) rfl ?_); refine goesL_ (some 28) rfl rfl Try.func27 (by kernel_rfl) rfl #[.agg #[.slice A0_0 l0_0.length c0_0, .slice A0_1 l0_1.length c0_1], .slice A1 l1.length c1] rfl (by (try simp only [List.map_toArray, List.map_cons, List.map_nil]); first | done | rfl | (simp only [List.length_drop, List.length_take]; rfl)) ?_; (with_reducible refine (cohousinglaw24_solved.calls kj3 _ _ l0_0 _ _ l0_1 _ _ l1 t407 true _ ?side1 ?side2 ?side3 ?side4 ?side5 ?side6 A15.out).mono ?_); (case side1 => repeat (first | exact (Kd.C_below HR0_0.out HB.out) | (with_reducible refine Kd.C_alloc ?_ _) | (with_reducible refine Kd.C_drewN ?_ _) | (with_reducible refine Kd.C_drew ?_))); (case side2 => exact HC0_0.out); (case side3 => repeat (first | exact (Kd.C_below HR0_1.out HB.out) | (with_reducible refine Kd.C_alloc ?_ _) | (with_reducible refine Kd.C_drewN ?_ _) | (with_reducible refine Kd.C_drew ?_))); (case side4 => exact HC0_1.out); (case side5 => repeat (first | exact (Kd.C_below HR1.out HB.out) | (with_reducible refine Kd.C_alloc ?_ _) | (with_reducible refine Kd.C_drewN ?_ _) | (with_reducible refine Kd.C_drew ?_))); (case side6 => exact HC1.out); rintro e w22 ⟨v408, rfl, ho0, hb⟩; refine ⟨_, rfl, ?_⟩; have n0_ := Aside0.mk (Kd.R_lower ho0 (below_size (by repeat (first | (with_reducible first | exact HB.out | apply below_alloc | apply pw_below_drewN | apply below_drew1 | refine below_set ?_ GE404.out) | exact HB.out)))); have n1_ := Aside0.mk (blk_below (g := gb404) (o := .cells #[.slice A0_0 l0_0.length c0_0, .slice A0_1 l0_1.length c0_1] 25 (0, 0)) (by (with_reducible repeat (first | refine blk_drewN ?_ _ | refine blk_drew ?_ | refine blk_alloc ?_ _)); exact BK404.out) hb); have n2_ := Aside0.mk (below_step (by repeat (first | (with_reducible first | exact HB.out | apply below_alloc | apply pw_below_drewN | apply below_drew1 | refine below_set ?_ GE404.out) | exact HB.out)) hb); clear BK404; clear HB; have HO409 := n0_; have BK404 := n1_; have HB := n2_; clear n0_ n1_ n2_; (try clear hb); (try clear hb2); (try clear hk); (try clear hi); (try clear ho0); have p411 : 0 ≤ (0 : Int) := (by omega); have q411 : 0 < (l1.length : Int) := of_decide_eq_true (by first | (with_reducible assumption) | assumption); obtain ⟨ad411, e411, hx411_0⟩ := Kd.at_int HR1.out 0 p411 q411; cases e411; have qi411 : (0 < l1.length) = True := eq_true (by omega); (try rw [show ((0 : Int)).toNat = 0 from rfl] at hx411_0); (try rw [Addr.add_zero'] at hx411_0); replace hx411_0 := (HB.out.cell (World.block_lt_of_cell? w _ hx411_0)).trans hx411_0; replace p411 := eq_true p411; replace q411 := eq_true q411; have hcz23_0 : w22.cell? ⟨gb404, 0, none⟩ = some (.slice A0_0 l0_0.length c0_0) := (blk_cell BK404.out 0).trans rfl; have hcz23_1 : w22.cell? ⟨gb404, 1, none⟩ = some (.slice A0_1 l0_1.length c0_1) := (blk_cell BK404.out 1).trans rfl; have hfz23_0 := blk_frozen BK404.out 0; have hfz23_1 := blk_frozen BK404.out 1; have p412 : 0 ≤ ((rd l1 0) : Int) := of_decide_eq_true (by first | (with_reducible assumption) | assumption); have q412 : (rd l1 0) < (l0_1.length : Int) := of_decide_eq_true (by first | (with_reducible assumption) | assumption); obtain ⟨ad412, A412_2, c412_2, e412, hx412_0, hx412_1, hx412_2, hl412_2, hi412_2⟩ := at_T41 HR0_1.out (rd l1 0) p412 q412; cases e412; replace hx412_0 := (HB.out.cell (World.block_lt_of_cell? w _ hx412_0)).trans hx412_0; replace hx412_1 := (HB.out.cell (World.block_lt_of_cell? w _ hx412_1)).trans hx412_1; replace hx412_2 := (HB.out.cell (World.block_lt_of_cell? w _ hx412_2)).trans hx412_2; have HR412_2 := Aside0.mk hi412_2; have HC412_2 := Aside0.mk hl412_2; clear hi412_2 hl412_2; replace p412 := eq_true p412; replace q412 := eq_true q412) | ((with_reducible refine gate_callee (f := 23) rfl ?_); refine goesL_ (some 41) rfl rfl Try.func23 (by kernel_rfl) rfl #[.agg #[.int .i64 ((rd_T41 l0_1 (rd l1 0)).f0), .int .i64 ((rd_T41 l0_1 (rd l1 0)).f1), .slice A412_2 ((rd_T41 l0_1 (rd l1 0)).f2).length c412_2]] rfl (by (try simp only [List.map_toArray, List.map_cons, List.map_nil]); first | done | rfl | (simp only [List.length_drop, List.length_take]; rfl)) ?_; (with_reducible refine (cohousingref23_Ranking.calls kj3 ((rd_T41 l0_1 (rd l1 0)).f0) ((rd_T41 l0_1 (rd l1 0)).f1) _ _ ((rd_T41 l0_1 (rd l1 0)).f2) t413 _ ?side1 ?side2 A20.out).mono ?_); (case side1 => repeat (first | exact (Kd.C_below HR412_2.out HB.out) | (with_reducible refine Kd.C_alloc ?_ _) | (with_reducible refine Kd.C_drewN ?_ _) | (with_reducible refine Kd.C_drew ?_))); (case side2 => exact HC412_2.out); rintro e w24 ⟨v414, rfl, ho0, hb⟩; refine ⟨_, rfl, ?_⟩; have n0_ := Aside0.mk (Kd.R_elder' (by (with_reducible repeat (first | apply Kd.R_alloc | apply Kd.R_drewN | apply Kd.R_drew)); exact HO409.out) (Kd.R_base ho0) hb); have n1_ := Aside0.mk (Kd.R_lower (Kd.R_new' ho0 (Kd.R_lt (by (with_reducible repeat (first | apply Kd.R_alloc | apply Kd.R_drewN | apply Kd.R_drew)); exact HO409.out))) (below_size (by repeat (first | (with_reducible first | exact HB.out | apply below_alloc | apply pw_below_drewN | apply below_drew1 | refine below_set ?_ GE404.out) | exact HB.out)))); have n2_ := Aside0.mk (blk_below (g := gb404) (o := .cells #[.slice A0_0 l0_0.length c0_0, .slice (some ad412) l0_1.length c0_1] 25 (0, 0)) (by (with_reducible repeat (first | refine blk_drewN ?_ _ | refine blk_drew ?_ | refine blk_alloc ?_ _)); exact BK404.out) hb); have n3_ := Aside0.mk (below_step (by repeat (first | (with_reducible first | exact HB.out | apply below_alloc | apply pw_below_drewN | apply below_drew1 | refine below_set ?_ GE404.out) | exact HB.out)) hb); clear HO409; clear BK404; clear HB; have HO409 := n0_; have HO415 := n1_; have BK404 := n2_; have HB := n3_; clear n0_ n1_ n2_ n3_; (try clear hb); (try clear hb2); (try clear hk); (try clear hi); (try clear ho0); have hcz25_0 : w24.cell? ⟨gb404, 0, none⟩ = some (.slice A0_0 l0_0.length c0_0) := (blk_cell BK404.out 0).trans rfl; have hcz25_1 : w24.cell? ⟨gb404, 1, none⟩ = some (.slice (some ad412) l0_1.length c0_1) := (blk_cell BK404.out 1).trans rfl; have hfz25_0 := blk_frozen BK404.out 0; have hfz25_1 := blk_frozen BK404.out 1))
        go_loopg [45] kj3 (fun kq v45 w' => ∃ (x45_2 : Int), v45 = .int .i64 x45_2 ∧ Aside0 (cohousinglaw24_TradeFirst.l0 kq t405 t407 (rd l1 0) t413 l0_0 (l0_0.length : Int) x45_2 l0_0 l0_1 = some r) ∧ Aside0 (kq ≤ kj3) ∧ Aside0 (Kd.R (Kd.int .i64) 3 w' w.heap.size (fun k_ => some k_ ≠ (v414 : Value).ownBlock) v408 t407) ∧ Aside0 (Kd.R (Kd.int .i64) 3 w' w.heap.size (fun k_ => some k_ ≠ (v408 : Value).ownBlock) v414 t413) ∧ Aside0 (w'.heap[gb404]? = some (.cells #[(.slice A0_0 l0_0.length c0_0), (.slice (some ad412) l0_1.length c0_1)] 25 (0, 0))) ∧ Aside0 (Below w.heap.size w w'))
        case atStart => exact ⟨(0), (by first | rfl | (simp; done) | (simp [*]; done)), H', ⟨Nat.le_refl _⟩, ⟨by (with_reducible repeat (first | apply Kd.R_alloc | apply Kd.R_drewN | apply Kd.R_drew)); exact Kd.R_mono HO409.out (fun _ hk => hk.2)⟩, ⟨by (with_reducible repeat (first | apply Kd.R_alloc | apply Kd.R_drewN | apply Kd.R_drew)); exact Kd.R_mono HO415.out (fun _ hk => hk.2)⟩, ⟨by (with_reducible repeat (first | refine blk_drewN ?_ _ | refine blk_drew ?_ | refine blk_alloc ?_ _)); exact BK404.out⟩, ⟨by repeat (first | (with_reducible first | exact HB.out | apply below_alloc | apply pw_below_drewN | apply below_drew1 | refine below_set ?_ GE404.out) | exact HB.out)⟩⟩
        case round =>
         clear H'
         try clear c1
         try clear c2
         try clear p2
         try clear c4
         try clear p4
         try clear q4
         try clear hx4
         try clear qi4
         try clear c8
         try clear c9
         try clear c14
         try clear c16
         try clear c17
         try clear c17b0
         try clear c17b1
         try clear c18
         try clear c18b0
         try clear c19
         try clear c19b0
         try clear c22
         try clear c23
         try clear hcz11_0
         try clear hcz11_1
         try clear hcz12_0
         try clear hcz12_1
         try clear hcz21_0
         try clear hcz21_1
         try clear hcz23_0
         try clear hcz23_1
         try clear hcz25_0
         try clear hcz25_1
         try clear hcz9_0
         try clear hcz9_1
         try clear hfz11_0
         try clear hfz11_1
         try clear hfz12_0
         try clear hfz12_1
         try clear hfz21_0
         try clear hfz21_1
         try clear hfz23_0
         try clear hfz23_1
         try clear hfz25_0
         try clear hfz25_1
         try clear hfz9_0
         try clear hfz9_1
         try clear hx411_0
         try clear hx412_0
         try clear hx412_1
         try clear hx412_2
         try clear p2
         try clear p411
         try clear p412
         try clear q411
         try clear q412
         obtain ⟨x45_2, rfl, HA, HK2, HO_6, HO_9, BK404, HB⟩ := hrel
         cases gk with
         | zero => exact absurd HA.out (by simp [cohousinglaw24_TradeFirst.l0])
         | succ k2 =>
          have H := HA.out
          clear HA
          simp only [cohousinglaw24_TradeFirst.l0] at H
          by_cases c26 : x45_2 < (l0_0.length : Int)
          ·
           rw [if_pos c26] at H
           have c26b0 : decide (x45_2 < (l0_0.length : Int)) = true := decide_eq_true c26
           clear c26
           by_cases c27 : 0 ≤ x45_2
           ·
            rw [if_pos c27] at H
            have c27b0 : decide (0 ≤ x45_2) = true := decide_eq_true c27
            clear c27
            by_cases c28 : x45_2 < (l0_0.length : Int)
            ·
             rw [if_pos c28] at H
             have c28b0 : decide (x45_2 < (l0_0.length : Int)) = true := decide_eq_true c28
             clear c28
             replace H := Option.bind_eq_some_iff.mp H
             obtain ⟨t418, A290, H⟩ := H
             replace H : ((cohousinglaw24_occupied.f k2 l0_0 l0_1 ((rd_T53 l0_0 x45_2).f0)).bind fun t419 => (if t419 = true then (cohousinglaw24_TradeFirst.l0 k2 t405 t407 (rd l1 0) t413 l0_0 (l0_0.length : Int) (wrap64 (x45_2 + 1)) l0_0 l0_1) else (if t418 ≥ 0 then (if 0 ≤ (rd l1 0) then (if (rd l1 0) < (t407.length : Int) then ((cohousingref23_In.f k2 t413 (rd t407 (rd l1 0))).bind fun t421 => (if t418 < t421 then (some false) else (cohousinglaw24_TradeFirst.l0 k2 t405 t407 (rd l1 0) t413 l0_0 (l0_0.length : Int) (wrap64 (x45_2 + 1)) l0_0 l0_1))) else (none)) else (none)) else (cohousinglaw24_TradeFirst.l0 k2 t405 t407 (rd l1 0) t413 l0_0 (l0_0.length : Int) (wrap64 (x45_2 + 1)) l0_0 l0_1)))) = some r := H
             have A29 := Aside0.mk A290
             clear A290
             replace H := Option.bind_eq_some_iff.mp H
             obtain ⟨t419, A300, H⟩ := H
             replace H : (if t419 = true then (cohousinglaw24_TradeFirst.l0 k2 t405 t407 (rd l1 0) t413 l0_0 (l0_0.length : Int) (wrap64 (x45_2 + 1)) l0_0 l0_1) else (if t418 ≥ 0 then (if 0 ≤ (rd l1 0) then (if (rd l1 0) < (t407.length : Int) then ((cohousingref23_In.f k2 t413 (rd t407 (rd l1 0))).bind fun t421 => (if t418 < t421 then (some false) else (cohousinglaw24_TradeFirst.l0 k2 t405 t407 (rd l1 0) t413 l0_0 (l0_0.length : Int) (wrap64 (x45_2 + 1)) l0_0 l0_1))) else (none)) else (none)) else (cohousinglaw24_TradeFirst.l0 k2 t405 t407 (rd l1 0) t413 l0_0 (l0_0.length : Int) (wrap64 (x45_2 + 1)) l0_0 l0_1))) = some r := H
             have A30 := Aside0.mk A300
             clear A300
             by_cases c31 : t419 = true
             ·
              subst c31
              have H1 : (cohousinglaw24_TradeFirst.l0 k2 t405 t407 (rd l1 0) t413 l0_0 (l0_0.length : Int) (wrap64 (x45_2 + 1)) l0_0 l0_1) = some r := by rw [if_pos rfl] at H; exact H
              clear H
              have H := H1
              clear H1
              have H' := Aside0.mk H
              clear H
              have p416 : 0 ≤ (x45_2 : Int) := of_decide_eq_true (by first | (with_reducible assumption) | assumption)
              have q416 : x45_2 < (l0_0.length : Int) := of_decide_eq_true (by first | (with_reducible assumption) | assumption)
              obtain ⟨ad416, e416, hx416_0, hx416_1⟩ := at_T53 HR0_0.out x45_2 p416 q416
              cases e416
              replace hx416_0 := (HB.out.cell (World.block_lt_of_cell? w _ hx416_0)).trans hx416_0
              replace hx416_1 := (HB.out.cell (World.block_lt_of_cell? w _ hx416_1)).trans hx416_1
              replace p416 := eq_true p416
              replace q416 := eq_true q416
              go_wp2_with (first | ((with_reducible refine gate_dst (N := 11) rfl ?_); (try (refine gate_guard (by rfl) ?_; dsimp only)); refine box_event ?hg (N := 11) ?hd (cs := #[.int .i64 0, .int .i64 0]) (t := 53) ?hr ?_; (case hd => rfl); (case hg => rfl); (case hr => first | (go_simp; done) | (go_simp; rfl)); intro gb417 hg w32 hbox hb; have n0_ := Aside0.mk (Kd.R_below (by (with_reducible repeat (first | apply Kd.R_alloc | apply Kd.R_drewN | apply Kd.R_drew)); exact HO_6.out) hb); have n1_ := Aside0.mk (Kd.R_below (by (with_reducible repeat (first | apply Kd.R_alloc | apply Kd.R_drewN | apply Kd.R_drew)); exact HO_9.out) hb); have n2_ := Aside0.mk (blk_below (g := gb404) (o := .cells #[.slice (some ad416) l0_0.length c0_0, .slice (some ad412) l0_1.length c0_1] 25 (0, 0)) (by (with_reducible repeat (first | refine blk_drewN ?_ _ | refine blk_drew ?_ | refine blk_alloc ?_ _)); exact BK404.out) hb); have n3_ := Aside0.mk (below_step (by repeat (first | (with_reducible first | exact HB.out | apply below_alloc | apply pw_below_drewN | apply below_drew1 | refine below_set ?_ GE404.out) | exact HB.out)) hb); have n4_ := Aside0.mk (hbox); have n5_ := Aside0.mk ((by rw [hg]; exact (below_size (by repeat (first | (with_reducible first | exact HB.out | apply below_alloc | apply pw_below_drewN | apply below_drew1 | refine below_set ?_ GE404.out) | exact HB.out))) : w.heap.size ≤ gb417)); have n6_ := Aside0.mk ((by rw [hg]; exact (below_size (by repeat (first | (with_reducible first | exact HB.out | apply below_alloc | apply pw_below_drewN | apply below_drew1 | refine below_set ?_ GE404.out) | exact HB.out))) : w.heap.size ≤ gb417)); have n7_ := Aside0.mk ((by rw [hg]; exact Nat.ne_of_lt (blk_lt (g := gb404) (o := .cells #[.slice (some ad416) l0_0.length c0_0, .slice (some ad412) l0_1.length c0_1] 25 (0, 0)) (by (with_reducible repeat (first | refine blk_drewN ?_ _ | refine blk_drew ?_ | refine blk_alloc ?_ _)); exact BK404.out)) : gb404 ≠ gb417)); have n8_ := Aside0.mk ((by rw [hg]; exact Nat.ne_of_gt (blk_lt (g := gb404) (o := .cells #[.slice (some ad416) l0_0.length c0_0, .slice (some ad412) l0_1.length c0_1] 25 (0, 0)) (by (with_reducible repeat (first | refine blk_drewN ?_ _ | refine blk_drew ?_ | refine blk_alloc ?_ _)); exact BK404.out)) : gb417 ≠ gb404)); clear HO_6; clear HO_9; clear BK404; clear HB; have HO_6 := n0_; have HO_9 := n1_; have BK404 := n2_; have HB := n3_; have BK417 := n4_; have GW417 := n5_; have GE417 := n6_; have NB404_417 := n7_; have NB417_404 := n8_; clear n0_ n1_ n2_ n3_ n4_ n5_ n6_ n7_ n8_; clear hb hbox hg; have hnb33 := NB417_404.out; have hnc33 := NB404_417.out; have hcz34_0 : w32.cell? ⟨gb417, 0, none⟩ = some (.int .i64 0) := (blk_cell BK417.out 0).trans rfl; have hcz34_1 : w32.cell? ⟨gb417, 1, none⟩ = some (.int .i64 0) := (blk_cell BK417.out 1).trans rfl; have hfz34_0 := blk_frozen BK417.out 0; have hfz34_1 := blk_frozen BK417.out 1; obtain ⟨Ao35, co35, eo35⟩ := Kd.R_slice HO_9.out; subst eo35) | ((with_reducible refine gate_callee (f := 24) rfl ?_); refine goesL_ (some 52) rfl rfl Try.func24 (by kernel_rfl) rfl #[.slice Ao35 t413.length co35, .int .i64 ((rd_T53 l0_0 x45_2).f0)] rfl (by (try simp only [List.map_toArray, List.map_cons, List.map_nil]); first | done | rfl | (simp only [List.length_drop, List.length_take]; rfl)) ?_; (with_reducible refine (cohousingref23_In.calls k2 _ _ t413 ((rd_T53 l0_0 x45_2).f0) t418 _ ?side1 ?side2 A29.out).mono ?_); (case side1 => refine (Kd.R_reads' (e := 3) (base := w.heap.size) (ok := fun k_ => some k_ ≠ (v408 : Value).ownBlock) (n := t413.length) (c := co35) ?_).2.2; exact (by (with_reducible repeat (first | apply Kd.R_alloc | apply Kd.R_drewN | apply Kd.R_drew)); exact (Kd.R_mono (Kd.R_far (p := ⟨gb417, 1, none⟩) (Kd.R_far (p := ⟨gb417, 0, none⟩) (Kd.R_types HO_9.out BK417.out (by decide)) (fun _ hk => hk.2) (.int .i64 ((rd_T53 l0_0 x45_2).f0))) (fun _ hk => hk.2) (.int .i64 ((rd_T53 l0_0 x45_2).f1))) (fun _ h_ => h_.1)))); (case side2 => exact (Kd.R_reads' HO_9.out).2.1); rintro e w' ⟨rfl, ⟨nd, rfl⟩⟩; refine ⟨_, rfl, ?_⟩; have hcz36_0 : w32.cell? ⟨gb404, 0, none⟩ = some (.slice (some ad416) l0_0.length c0_0) := (blk_cell BK404.out 0).trans rfl; have hcz36_1 : w32.cell? ⟨gb404, 1, none⟩ = some (.slice (some ad412) l0_1.length c0_1) := (blk_cell BK404.out 1).trans rfl; have hfz36_0 := blk_frozen BK404.out 0; have hfz36_1 := blk_frozen BK404.out 1) | ((with_reducible refine gate_callee (f := 26) rfl ?_); refine goesL_ (some 56) rfl rfl Try.func26 (by kernel_rfl) rfl #[.agg #[.slice (some ad416) l0_0.length c0_0, .slice (some ad412) l0_1.length c0_1], .int .i64 ((rd_T53 l0_0 x45_2).f0)] rfl (by (try simp only [List.map_toArray, List.map_cons, List.map_nil]); first | done | rfl | (simp only [List.length_drop, List.length_take]; rfl)) ?_; (with_reducible refine (cohousinglaw24_occupied.calls k2 _ _ l0_0 _ _ l0_1 ((rd_T53 l0_0 x45_2).f0) true _ ?side1 ?side2 ?side3 ?side4 A30.out).mono ?_); (case side1 => exact Kd.C_below HR0_0.out (by repeat (first | (with_reducible first | exact HB.out | apply below_alloc | apply pw_below_drewN | apply below_drew1 | refine below_set ?_ GE404.out | refine below_set ?_ GE417.out) | exact HB.out))); (case side2 => exact HC0_0.out); (case side3 => exact Kd.C_below HR0_1.out (by repeat (first | (with_reducible first | exact HB.out | apply below_alloc | apply pw_below_drewN | apply below_drew1 | refine below_set ?_ GE404.out | refine below_set ?_ GE417.out) | exact HB.out))); (case side4 => exact HC0_1.out); rintro e w37 ⟨rfl, hb⟩; refine ⟨_, rfl, ?_⟩; have n0_ := Aside0.mk (Kd.R_below (by (with_reducible repeat (first | apply Kd.R_alloc | apply Kd.R_drewN | apply Kd.R_drew)); exact (Kd.R_mono (Kd.R_far (p := ⟨gb417, 1, none⟩) (Kd.R_far (p := ⟨gb417, 0, none⟩) (Kd.R_types HO_6.out BK417.out (by decide)) (fun _ hk => hk.2) (.int .i64 ((rd_T53 l0_0 x45_2).f0))) (fun _ hk => hk.2) (.int .i64 ((rd_T53 l0_0 x45_2).f1))) (fun _ h_ => h_.1))) hb); have n1_ := Aside0.mk (Kd.R_below (by (with_reducible repeat (first | apply Kd.R_alloc | apply Kd.R_drewN | apply Kd.R_drew)); exact (Kd.R_mono (Kd.R_far (p := ⟨gb417, 1, none⟩) (Kd.R_far (p := ⟨gb417, 0, none⟩) (Kd.R_types HO_9.out BK417.out (by decide)) (fun _ hk => hk.2) (.int .i64 ((rd_T53 l0_0 x45_2).f0))) (fun _ hk => hk.2) (.int .i64 ((rd_T53 l0_0 x45_2).f1))) (fun _ h_ => h_.1))) hb); have n2_ := Aside0.mk (blk_below (g := gb404) (o := .cells #[.slice (some ad416) l0_0.length c0_0, .slice (some ad412) l0_1.length c0_1] 25 (0, 0)) (by (with_reducible repeat (first | refine blk_drewN ?_ _ | refine blk_drew ?_ | refine blk_alloc ?_ _)); refine blk_far ?_ NB404_417.out _; (with_reducible repeat (first | refine blk_drewN ?_ _ | refine blk_drew ?_ | refine blk_alloc ?_ _)); refine blk_far ?_ NB404_417.out _; (with_reducible repeat (first | refine blk_drewN ?_ _ | refine blk_drew ?_ | refine blk_alloc ?_ _)); exact BK404.out) hb); have n3_ := Aside0.mk (blk_below (g := gb417) (o := .cells #[.int .i64 ((rd_T53 l0_0 x45_2).f0), .int .i64 ((rd_T53 l0_0 x45_2).f1)] 53 (0, 0)) (by (with_reducible repeat (first | refine blk_drewN ?_ _ | refine blk_drew ?_ | refine blk_alloc ?_ _)); refine blk_put (cs := #[.int .i64 ((rd_T53 l0_0 x45_2).f0), .int .i64 0]) ?_ 1 _ rfl; (with_reducible repeat (first | refine blk_drewN ?_ _ | refine blk_drew ?_ | refine blk_alloc ?_ _)); refine blk_put (cs := #[.int .i64 0, .int .i64 0]) ?_ 0 _ rfl; (with_reducible repeat (first | refine blk_drewN ?_ _ | refine blk_drew ?_ | refine blk_alloc ?_ _)); exact BK417.out) hb); have n4_ := Aside0.mk (below_step (by repeat (first | (with_reducible first | exact HB.out | apply below_alloc | apply pw_below_drewN | apply below_drew1 | refine below_set ?_ GE404.out | refine below_set ?_ GE417.out) | exact HB.out)) hb); clear HO_6; clear HO_9; clear BK404; clear BK417; clear HB; have HO_6 := n0_; have HO_9 := n1_; have BK404 := n2_; have BK417 := n3_; have HB := n4_; clear n0_ n1_ n2_ n3_ n4_; (try clear hb); (try clear hb2); (try clear hk); (try clear hi)))
              go_roundg k2
              case measure => have := HJ3.out; have := HK2.out; omega
              case rel => exact ⟨(wrap64 (x45_2 + 1)), (by first | rfl | (simp; done) | (simp [*]; done)), H', ⟨by have := HJ3.out; have := HK2.out; omega⟩, ⟨by (with_reducible repeat (first | apply Kd.R_alloc | apply Kd.R_drewN | apply Kd.R_drew)); exact HO_6.out⟩, ⟨by (with_reducible repeat (first | apply Kd.R_alloc | apply Kd.R_drewN | apply Kd.R_drew)); exact HO_9.out⟩, ⟨by (with_reducible repeat (first | refine blk_drewN ?_ _ | refine blk_drew ?_ | refine blk_alloc ?_ _)); exact BK404.out⟩, ⟨by repeat (first | (with_reducible first | exact HB.out | apply below_alloc | apply pw_below_drewN | apply below_drew1 | refine below_set ?_ GE404.out | refine below_set ?_ GE417.out) | exact HB.out)⟩⟩
             ·
              replace c31 := Bool.eq_false_iff.mpr c31
              subst c31
              have H1 : (if t418 ≥ 0 then (if 0 ≤ (rd l1 0) then (if (rd l1 0) < (t407.length : Int) then ((cohousingref23_In.f k2 t413 (rd t407 (rd l1 0))).bind fun t421 => (if t418 < t421 then (some false) else (cohousinglaw24_TradeFirst.l0 k2 t405 t407 (rd l1 0) t413 l0_0 (l0_0.length : Int) (wrap64 (x45_2 + 1)) l0_0 l0_1))) else (none)) else (none)) else (cohousinglaw24_TradeFirst.l0 k2 t405 t407 (rd l1 0) t413 l0_0 (l0_0.length : Int) (wrap64 (x45_2 + 1)) l0_0 l0_1)) = some r := by rw [if_neg (show ¬ (false = true) by decide)] at H; exact H
              clear H
              have H := H1
              clear H1
              by_cases c38 : t418 ≥ 0
              ·
               rw [if_pos c38] at H
               have c38b0 : decide (0 ≤ t418) = true := decide_eq_true c38
               clear c38
               by_cases c39 : 0 ≤ (rd l1 0)
               ·
                rw [if_pos c39] at H
                have c39b0 : decide (0 ≤ (rd l1 0)) = true := decide_eq_true c39
                clear c39
                by_cases c40 : (rd l1 0) < (t407.length : Int)
                ·
                 rw [if_pos c40] at H
                 have c40b0 : decide ((rd l1 0) < (t407.length : Int)) = true := decide_eq_true c40
                 clear c40
                 replace H := Option.bind_eq_some_iff.mp H
                 obtain ⟨t421, A410, H⟩ := H
                 replace H : (if t418 < t421 then (some false) else (cohousinglaw24_TradeFirst.l0 k2 t405 t407 (rd l1 0) t413 l0_0 (l0_0.length : Int) (wrap64 (x45_2 + 1)) l0_0 l0_1)) = some r := H
                 have A41 := Aside0.mk A410
                 clear A410
                 by_cases c42 : t418 < t421
                 ·
                  rw [if_pos c42] at H
                  have c42b0 : decide (t418 < t421) = true := decide_eq_true c42
                  clear c42
                  obtain rfl := Option.some.inj H
                  have p416 : 0 ≤ (x45_2 : Int) := of_decide_eq_true (by first | (with_reducible assumption) | assumption)
                  have q416 : x45_2 < (l0_0.length : Int) := of_decide_eq_true (by first | (with_reducible assumption) | assumption)
                  obtain ⟨ad416, e416, hx416_0, hx416_1⟩ := at_T53 HR0_0.out x45_2 p416 q416
                  cases e416
                  replace hx416_0 := (HB.out.cell (World.block_lt_of_cell? w _ hx416_0)).trans hx416_0
                  replace hx416_1 := (HB.out.cell (World.block_lt_of_cell? w _ hx416_1)).trans hx416_1
                  replace p416 := eq_true p416
                  replace q416 := eq_true q416
                  go_wp2_with (first | ((with_reducible refine gate_dst (N := 11) rfl ?_); (try (refine gate_guard (by rfl) ?_; dsimp only)); refine box_event ?hg (N := 11) ?hd (cs := #[.int .i64 0, .int .i64 0]) (t := 53) ?hr ?_; (case hd => rfl); (case hg => rfl); (case hr => first | (go_simp; done) | (go_simp; rfl)); intro gb417 hg w43 hbox hb; have n0_ := Aside0.mk (Kd.R_below (by (with_reducible repeat (first | apply Kd.R_alloc | apply Kd.R_drewN | apply Kd.R_drew)); exact HO_6.out) hb); have n1_ := Aside0.mk (Kd.R_below (by (with_reducible repeat (first | apply Kd.R_alloc | apply Kd.R_drewN | apply Kd.R_drew)); exact HO_9.out) hb); have n2_ := Aside0.mk (blk_below (g := gb404) (o := .cells #[.slice (some ad416) l0_0.length c0_0, .slice (some ad412) l0_1.length c0_1] 25 (0, 0)) (by (with_reducible repeat (first | refine blk_drewN ?_ _ | refine blk_drew ?_ | refine blk_alloc ?_ _)); exact BK404.out) hb); have n3_ := Aside0.mk (below_step (by repeat (first | (with_reducible first | exact HB.out | apply below_alloc | apply pw_below_drewN | apply below_drew1 | refine below_set ?_ GE404.out) | exact HB.out)) hb); have n4_ := Aside0.mk (hbox); have n5_ := Aside0.mk ((by rw [hg]; exact (below_size (by repeat (first | (with_reducible first | exact HB.out | apply below_alloc | apply pw_below_drewN | apply below_drew1 | refine below_set ?_ GE404.out) | exact HB.out))) : w.heap.size ≤ gb417)); have n6_ := Aside0.mk ((by rw [hg]; exact (below_size (by repeat (first | (with_reducible first | exact HB.out | apply below_alloc | apply pw_below_drewN | apply below_drew1 | refine below_set ?_ GE404.out) | exact HB.out))) : w.heap.size ≤ gb417)); have n7_ := Aside0.mk ((by rw [hg]; exact Nat.ne_of_lt (blk_lt (g := gb404) (o := .cells #[.slice (some ad416) l0_0.length c0_0, .slice (some ad412) l0_1.length c0_1] 25 (0, 0)) (by (with_reducible repeat (first | refine blk_drewN ?_ _ | refine blk_drew ?_ | refine blk_alloc ?_ _)); exact BK404.out)) : gb404 ≠ gb417)); have n8_ := Aside0.mk ((by rw [hg]; exact Nat.ne_of_gt (blk_lt (g := gb404) (o := .cells #[.slice (some ad416) l0_0.length c0_0, .slice (some ad412) l0_1.length c0_1] 25 (0, 0)) (by (with_reducible repeat (first | refine blk_drewN ?_ _ | refine blk_drew ?_ | refine blk_alloc ?_ _)); exact BK404.out)) : gb417 ≠ gb404)); clear HO_6; clear HO_9; clear BK404; clear HB; have HO_6 := n0_; have HO_9 := n1_; have BK404 := n2_; have HB := n3_; have BK417 := n4_; have GW417 := n5_; have GE417 := n6_; have NB404_417 := n7_; have NB417_404 := n8_; clear n0_ n1_ n2_ n3_ n4_ n5_ n6_ n7_ n8_; clear hb hbox hg; have hnb44 := NB417_404.out; have hnc44 := NB404_417.out; have hcz45_0 : w43.cell? ⟨gb417, 0, none⟩ = some (.int .i64 0) := (blk_cell BK417.out 0).trans rfl; have hcz45_1 : w43.cell? ⟨gb417, 1, none⟩ = some (.int .i64 0) := (blk_cell BK417.out 1).trans rfl; have hfz45_0 := blk_frozen BK417.out 0; have hfz45_1 := blk_frozen BK417.out 1; obtain ⟨Ao46, co46, eo46⟩ := Kd.R_slice HO_9.out; subst eo46) | ((with_reducible refine gate_callee (f := 24) rfl ?_); refine goesL_ (some 52) rfl rfl Try.func24 (by kernel_rfl) rfl #[.slice Ao46 t413.length co46, .int .i64 ((rd_T53 l0_0 x45_2).f0)] rfl (by (try simp only [List.map_toArray, List.map_cons, List.map_nil]); first | done | rfl | (simp only [List.length_drop, List.length_take]; rfl)) ?_; (with_reducible refine (cohousingref23_In.calls k2 _ _ t413 ((rd_T53 l0_0 x45_2).f0) t418 _ ?side1 ?side2 A29.out).mono ?_); (case side1 => refine (Kd.R_reads' (e := 3) (base := w.heap.size) (ok := fun k_ => some k_ ≠ (v408 : Value).ownBlock) (n := t413.length) (c := co46) ?_).2.2; exact (by (with_reducible repeat (first | apply Kd.R_alloc | apply Kd.R_drewN | apply Kd.R_drew)); exact (Kd.R_mono (Kd.R_far (p := ⟨gb417, 1, none⟩) (Kd.R_far (p := ⟨gb417, 0, none⟩) (Kd.R_types HO_9.out BK417.out (by decide)) (fun _ hk => hk.2) (.int .i64 ((rd_T53 l0_0 x45_2).f0))) (fun _ hk => hk.2) (.int .i64 ((rd_T53 l0_0 x45_2).f1))) (fun _ h_ => h_.1)))); (case side2 => exact (Kd.R_reads' HO_9.out).2.1); rintro e w' ⟨rfl, ⟨nd, rfl⟩⟩; refine ⟨_, rfl, ?_⟩; have hcz47_0 : w43.cell? ⟨gb404, 0, none⟩ = some (.slice (some ad416) l0_0.length c0_0) := (blk_cell BK404.out 0).trans rfl; have hcz47_1 : w43.cell? ⟨gb404, 1, none⟩ = some (.slice (some ad412) l0_1.length c0_1) := (blk_cell BK404.out 1).trans rfl; have hfz47_0 := blk_frozen BK404.out 0; have hfz47_1 := blk_frozen BK404.out 1) | ((with_reducible refine gate_callee (f := 26) rfl ?_); refine goesL_ (some 56) rfl rfl Try.func26 (by kernel_rfl) rfl #[.agg #[.slice (some ad416) l0_0.length c0_0, .slice (some ad412) l0_1.length c0_1], .int .i64 ((rd_T53 l0_0 x45_2).f0)] rfl (by (try simp only [List.map_toArray, List.map_cons, List.map_nil]); first | done | rfl | (simp only [List.length_drop, List.length_take]; rfl)) ?_; (with_reducible refine (cohousinglaw24_occupied.calls k2 _ _ l0_0 _ _ l0_1 ((rd_T53 l0_0 x45_2).f0) false _ ?side1 ?side2 ?side3 ?side4 A30.out).mono ?_); (case side1 => exact Kd.C_below HR0_0.out (by repeat (first | (with_reducible first | exact HB.out | apply below_alloc | apply pw_below_drewN | apply below_drew1 | refine below_set ?_ GE404.out | refine below_set ?_ GE417.out) | exact HB.out))); (case side2 => exact HC0_0.out); (case side3 => exact Kd.C_below HR0_1.out (by repeat (first | (with_reducible first | exact HB.out | apply below_alloc | apply pw_below_drewN | apply below_drew1 | refine below_set ?_ GE404.out | refine below_set ?_ GE417.out) | exact HB.out))); (case side4 => exact HC0_1.out); rintro e w48 ⟨rfl, hb⟩; refine ⟨_, rfl, ?_⟩; have n0_ := Aside0.mk (Kd.R_below (by (with_reducible repeat (first | apply Kd.R_alloc | apply Kd.R_drewN | apply Kd.R_drew)); exact (Kd.R_mono (Kd.R_far (p := ⟨gb417, 1, none⟩) (Kd.R_far (p := ⟨gb417, 0, none⟩) (Kd.R_types HO_6.out BK417.out (by decide)) (fun _ hk => hk.2) (.int .i64 ((rd_T53 l0_0 x45_2).f0))) (fun _ hk => hk.2) (.int .i64 ((rd_T53 l0_0 x45_2).f1))) (fun _ h_ => h_.1))) hb); have n1_ := Aside0.mk (Kd.R_below (by (with_reducible repeat (first | apply Kd.R_alloc | apply Kd.R_drewN | apply Kd.R_drew)); exact (Kd.R_mono (Kd.R_far (p := ⟨gb417, 1, none⟩) (Kd.R_far (p := ⟨gb417, 0, none⟩) (Kd.R_types HO_9.out BK417.out (by decide)) (fun _ hk => hk.2) (.int .i64 ((rd_T53 l0_0 x45_2).f0))) (fun _ hk => hk.2) (.int .i64 ((rd_T53 l0_0 x45_2).f1))) (fun _ h_ => h_.1))) hb); have n2_ := Aside0.mk (blk_below (g := gb404) (o := .cells #[.slice (some ad416) l0_0.length c0_0, .slice (some ad412) l0_1.length c0_1] 25 (0, 0)) (by (with_reducible repeat (first | refine blk_drewN ?_ _ | refine blk_drew ?_ | refine blk_alloc ?_ _)); refine blk_far ?_ NB404_417.out _; (with_reducible repeat (first | refine blk_drewN ?_ _ | refine blk_drew ?_ | refine blk_alloc ?_ _)); refine blk_far ?_ NB404_417.out _; (with_reducible repeat (first | refine blk_drewN ?_ _ | refine blk_drew ?_ | refine blk_alloc ?_ _)); exact BK404.out) hb); have n3_ := Aside0.mk (blk_below (g := gb417) (o := .cells #[.int .i64 ((rd_T53 l0_0 x45_2).f0), .int .i64 ((rd_T53 l0_0 x45_2).f1)] 53 (0, 0)) (by (with_reducible repeat (first | refine blk_drewN ?_ _ | refine blk_drew ?_ | refine blk_alloc ?_ _)); refine blk_put (cs := #[.int .i64 ((rd_T53 l0_0 x45_2).f0), .int .i64 0]) ?_ 1 _ rfl; (with_reducible repeat (first | refine blk_drewN ?_ _ | refine blk_drew ?_ | refine blk_alloc ?_ _)); refine blk_put (cs := #[.int .i64 0, .int .i64 0]) ?_ 0 _ rfl; (with_reducible repeat (first | refine blk_drewN ?_ _ | refine blk_drew ?_ | refine blk_alloc ?_ _)); exact BK417.out) hb); have n4_ := Aside0.mk (below_step (by repeat (first | (with_reducible first | exact HB.out | apply below_alloc | apply pw_below_drewN | apply below_drew1 | refine below_set ?_ GE404.out | refine below_set ?_ GE417.out) | exact HB.out)) hb); clear HO_6; clear HO_9; clear BK404; clear BK417; clear HB; have HO_6 := n0_; have HO_9 := n1_; have BK404 := n2_; have BK417 := n3_; have HB := n4_; clear n0_ n1_ n2_ n3_ n4_; (try clear hb); (try clear hb2); (try clear hk); (try clear hi); obtain ⟨Ao49, co49, eo49⟩ := Kd.R_slice HO_6.out; subst eo49; have p420 : 0 ≤ ((rd l1 0) : Int) := of_decide_eq_true (by first | (with_reducible assumption) | assumption); have q420 : (rd l1 0) < (t407.length : Int) := of_decide_eq_true (by first | (with_reducible assumption) | assumption); obtain ⟨ad420, e420, hx420_0⟩ := Kd.at_int (Kd.R_reads' HO_6.out).2.2 (rd l1 0) p420 q420; cases e420; replace p420 := eq_true p420; replace q420 := eq_true q420) | (go_at_call 24; (with_reducible refine (cohousingref23_In.calls k2 _ _ t413 (rd t407 (rd l1 0)) t421 _ ?side1 ?side2 A41.out).mono ?_); (case side1 => repeat (first | exact (Kd.R_reads' HO_9.out).2.2 | (with_reducible refine Kd.C_alloc ?_ _) | (with_reducible refine Kd.C_drewN ?_ _) | (with_reducible refine Kd.C_drew ?_))); (case side2 => exact (Kd.R_reads' HO_9.out).2.1); rintro e w' ⟨rfl, ⟨nd, rfl⟩⟩))
                  go_ret
                  exact ⟨by first | rfl | (simp [errW_none, errW_some] <;> rfl) | (simp [*, errW_none, errW_some] <;> rfl), by repeat (first | (with_reducible first | exact HB.out | apply below_alloc | apply pw_below_drewN | apply below_drew1 | refine below_set ?_ GE404.out | refine below_set ?_ GE417.out) | exact HB.out)⟩
                 ·
                  rw [if_neg c42] at H
                  have c42b0 : decide (t418 < t421) = false := decide_eq_false c42
                  clear c42
                  have H' := Aside0.mk H
                  clear H
                  have p416 : 0 ≤ (x45_2 : Int) := of_decide_eq_true (by first | (with_reducible assumption) | assumption)
                  have q416 : x45_2 < (l0_0.length : Int) := of_decide_eq_true (by first | (with_reducible assumption) | assumption)
                  obtain ⟨ad416, e416, hx416_0, hx416_1⟩ := at_T53 HR0_0.out x45_2 p416 q416
                  cases e416
                  replace hx416_0 := (HB.out.cell (World.block_lt_of_cell? w _ hx416_0)).trans hx416_0
                  replace hx416_1 := (HB.out.cell (World.block_lt_of_cell? w _ hx416_1)).trans hx416_1
                  replace p416 := eq_true p416
                  replace q416 := eq_true q416
                  go_wp2_with (first | ((with_reducible refine gate_dst (N := 11) rfl ?_); (try (refine gate_guard (by rfl) ?_; dsimp only)); refine box_event ?hg (N := 11) ?hd (cs := #[.int .i64 0, .int .i64 0]) (t := 53) ?hr ?_; (case hd => rfl); (case hg => rfl); (case hr => first | (go_simp; done) | (go_simp; rfl)); intro gb417 hg w50 hbox hb; have n0_ := Aside0.mk (Kd.R_below (by (with_reducible repeat (first | apply Kd.R_alloc | apply Kd.R_drewN | apply Kd.R_drew)); exact HO_6.out) hb); have n1_ := Aside0.mk (Kd.R_below (by (with_reducible repeat (first | apply Kd.R_alloc | apply Kd.R_drewN | apply Kd.R_drew)); exact HO_9.out) hb); have n2_ := Aside0.mk (blk_below (g := gb404) (o := .cells #[.slice (some ad416) l0_0.length c0_0, .slice (some ad412) l0_1.length c0_1] 25 (0, 0)) (by (with_reducible repeat (first | refine blk_drewN ?_ _ | refine blk_drew ?_ | refine blk_alloc ?_ _)); exact BK404.out) hb); have n3_ := Aside0.mk (below_step (by repeat (first | (with_reducible first | exact HB.out | apply below_alloc | apply pw_below_drewN | apply below_drew1 | refine below_set ?_ GE404.out) | exact HB.out)) hb); have n4_ := Aside0.mk (hbox); have n5_ := Aside0.mk ((by rw [hg]; exact (below_size (by repeat (first | (with_reducible first | exact HB.out | apply below_alloc | apply pw_below_drewN | apply below_drew1 | refine below_set ?_ GE404.out) | exact HB.out))) : w.heap.size ≤ gb417)); have n6_ := Aside0.mk ((by rw [hg]; exact (below_size (by repeat (first | (with_reducible first | exact HB.out | apply below_alloc | apply pw_below_drewN | apply below_drew1 | refine below_set ?_ GE404.out) | exact HB.out))) : w.heap.size ≤ gb417)); have n7_ := Aside0.mk ((by rw [hg]; exact Nat.ne_of_lt (blk_lt (g := gb404) (o := .cells #[.slice (some ad416) l0_0.length c0_0, .slice (some ad412) l0_1.length c0_1] 25 (0, 0)) (by (with_reducible repeat (first | refine blk_drewN ?_ _ | refine blk_drew ?_ | refine blk_alloc ?_ _)); exact BK404.out)) : gb404 ≠ gb417)); have n8_ := Aside0.mk ((by rw [hg]; exact Nat.ne_of_gt (blk_lt (g := gb404) (o := .cells #[.slice (some ad416) l0_0.length c0_0, .slice (some ad412) l0_1.length c0_1] 25 (0, 0)) (by (with_reducible repeat (first | refine blk_drewN ?_ _ | refine blk_drew ?_ | refine blk_alloc ?_ _)); exact BK404.out)) : gb417 ≠ gb404)); clear HO_6; clear HO_9; clear BK404; clear HB; have HO_6 := n0_; have HO_9 := n1_; have BK404 := n2_; have HB := n3_; have BK417 := n4_; have GW417 := n5_; have GE417 := n6_; have NB404_417 := n7_; have NB417_404 := n8_; clear n0_ n1_ n2_ n3_ n4_ n5_ n6_ n7_ n8_; clear hb hbox hg; have hnb51 := NB417_404.out; have hnc51 := NB404_417.out; have hcz52_0 : w50.cell? ⟨gb417, 0, none⟩ = some (.int .i64 0) := (blk_cell BK417.out 0).trans rfl; have hcz52_1 : w50.cell? ⟨gb417, 1, none⟩ = some (.int .i64 0) := (blk_cell BK417.out 1).trans rfl; have hfz52_0 := blk_frozen BK417.out 0; have hfz52_1 := blk_frozen BK417.out 1; obtain ⟨Ao53, co53, eo53⟩ := Kd.R_slice HO_9.out; subst eo53) | ((with_reducible refine gate_callee (f := 24) rfl ?_); refine goesL_ (some 52) rfl rfl Try.func24 (by kernel_rfl) rfl #[.slice Ao53 t413.length co53, .int .i64 ((rd_T53 l0_0 x45_2).f0)] rfl (by (try simp only [List.map_toArray, List.map_cons, List.map_nil]); first | done | rfl | (simp only [List.length_drop, List.length_take]; rfl)) ?_; (with_reducible refine (cohousingref23_In.calls k2 _ _ t413 ((rd_T53 l0_0 x45_2).f0) t418 _ ?side1 ?side2 A29.out).mono ?_); (case side1 => refine (Kd.R_reads' (e := 3) (base := w.heap.size) (ok := fun k_ => some k_ ≠ (v408 : Value).ownBlock) (n := t413.length) (c := co53) ?_).2.2; exact (by (with_reducible repeat (first | apply Kd.R_alloc | apply Kd.R_drewN | apply Kd.R_drew)); exact (Kd.R_mono (Kd.R_far (p := ⟨gb417, 1, none⟩) (Kd.R_far (p := ⟨gb417, 0, none⟩) (Kd.R_types HO_9.out BK417.out (by decide)) (fun _ hk => hk.2) (.int .i64 ((rd_T53 l0_0 x45_2).f0))) (fun _ hk => hk.2) (.int .i64 ((rd_T53 l0_0 x45_2).f1))) (fun _ h_ => h_.1)))); (case side2 => exact (Kd.R_reads' HO_9.out).2.1); rintro e w' ⟨rfl, ⟨nd, rfl⟩⟩; refine ⟨_, rfl, ?_⟩; have hcz54_0 : w50.cell? ⟨gb404, 0, none⟩ = some (.slice (some ad416) l0_0.length c0_0) := (blk_cell BK404.out 0).trans rfl; have hcz54_1 : w50.cell? ⟨gb404, 1, none⟩ = some (.slice (some ad412) l0_1.length c0_1) := (blk_cell BK404.out 1).trans rfl; have hfz54_0 := blk_frozen BK404.out 0; have hfz54_1 := blk_frozen BK404.out 1) | ((with_reducible refine gate_callee (f := 26) rfl ?_); refine goesL_ (some 56) rfl rfl Try.func26 (by kernel_rfl) rfl #[.agg #[.slice (some ad416) l0_0.length c0_0, .slice (some ad412) l0_1.length c0_1], .int .i64 ((rd_T53 l0_0 x45_2).f0)] rfl (by (try simp only [List.map_toArray, List.map_cons, List.map_nil]); first | done | rfl | (simp only [List.length_drop, List.length_take]; rfl)) ?_; (with_reducible refine (cohousinglaw24_occupied.calls k2 _ _ l0_0 _ _ l0_1 ((rd_T53 l0_0 x45_2).f0) false _ ?side1 ?side2 ?side3 ?side4 A30.out).mono ?_); (case side1 => exact Kd.C_below HR0_0.out (by repeat (first | (with_reducible first | exact HB.out | apply below_alloc | apply pw_below_drewN | apply below_drew1 | refine below_set ?_ GE404.out | refine below_set ?_ GE417.out) | exact HB.out))); (case side2 => exact HC0_0.out); (case side3 => exact Kd.C_below HR0_1.out (by repeat (first | (with_reducible first | exact HB.out | apply below_alloc | apply pw_below_drewN | apply below_drew1 | refine below_set ?_ GE404.out | refine below_set ?_ GE417.out) | exact HB.out))); (case side4 => exact HC0_1.out); rintro e w55 ⟨rfl, hb⟩; refine ⟨_, rfl, ?_⟩; have n0_ := Aside0.mk (Kd.R_below (by (with_reducible repeat (first | apply Kd.R_alloc | apply Kd.R_drewN | apply Kd.R_drew)); exact (Kd.R_mono (Kd.R_far (p := ⟨gb417, 1, none⟩) (Kd.R_far (p := ⟨gb417, 0, none⟩) (Kd.R_types HO_6.out BK417.out (by decide)) (fun _ hk => hk.2) (.int .i64 ((rd_T53 l0_0 x45_2).f0))) (fun _ hk => hk.2) (.int .i64 ((rd_T53 l0_0 x45_2).f1))) (fun _ h_ => h_.1))) hb); have n1_ := Aside0.mk (Kd.R_below (by (with_reducible repeat (first | apply Kd.R_alloc | apply Kd.R_drewN | apply Kd.R_drew)); exact (Kd.R_mono (Kd.R_far (p := ⟨gb417, 1, none⟩) (Kd.R_far (p := ⟨gb417, 0, none⟩) (Kd.R_types HO_9.out BK417.out (by decide)) (fun _ hk => hk.2) (.int .i64 ((rd_T53 l0_0 x45_2).f0))) (fun _ hk => hk.2) (.int .i64 ((rd_T53 l0_0 x45_2).f1))) (fun _ h_ => h_.1))) hb); have n2_ := Aside0.mk (blk_below (g := gb404) (o := .cells #[.slice (some ad416) l0_0.length c0_0, .slice (some ad412) l0_1.length c0_1] 25 (0, 0)) (by (with_reducible repeat (first | refine blk_drewN ?_ _ | refine blk_drew ?_ | refine blk_alloc ?_ _)); refine blk_far ?_ NB404_417.out _; (with_reducible repeat (first | refine blk_drewN ?_ _ | refine blk_drew ?_ | refine blk_alloc ?_ _)); refine blk_far ?_ NB404_417.out _; (with_reducible repeat (first | refine blk_drewN ?_ _ | refine blk_drew ?_ | refine blk_alloc ?_ _)); exact BK404.out) hb); have n3_ := Aside0.mk (blk_below (g := gb417) (o := .cells #[.int .i64 ((rd_T53 l0_0 x45_2).f0), .int .i64 ((rd_T53 l0_0 x45_2).f1)] 53 (0, 0)) (by (with_reducible repeat (first | refine blk_drewN ?_ _ | refine blk_drew ?_ | refine blk_alloc ?_ _)); refine blk_put (cs := #[.int .i64 ((rd_T53 l0_0 x45_2).f0), .int .i64 0]) ?_ 1 _ rfl; (with_reducible repeat (first | refine blk_drewN ?_ _ | refine blk_drew ?_ | refine blk_alloc ?_ _)); refine blk_put (cs := #[.int .i64 0, .int .i64 0]) ?_ 0 _ rfl; (with_reducible repeat (first | refine blk_drewN ?_ _ | refine blk_drew ?_ | refine blk_alloc ?_ _)); exact BK417.out) hb); have n4_ := Aside0.mk (below_step (by repeat (first | (with_reducible first | exact HB.out | apply below_alloc | apply pw_below_drewN | apply below_drew1 | refine below_set ?_ GE404.out | refine below_set ?_ GE417.out) | exact HB.out)) hb); clear HO_6; clear HO_9; clear BK404; clear BK417; clear HB; have HO_6 := n0_; have HO_9 := n1_; have BK404 := n2_; have BK417 := n3_; have HB := n4_; clear n0_ n1_ n2_ n3_ n4_; (try clear hb); (try clear hb2); (try clear hk); (try clear hi); obtain ⟨Ao56, co56, eo56⟩ := Kd.R_slice HO_6.out; subst eo56; have p420 : 0 ≤ ((rd l1 0) : Int) := of_decide_eq_true (by first | (with_reducible assumption) | assumption); have q420 : (rd l1 0) < (t407.length : Int) := of_decide_eq_true (by first | (with_reducible assumption) | assumption); obtain ⟨ad420, e420, hx420_0⟩ := Kd.at_int (Kd.R_reads' HO_6.out).2.2 (rd l1 0) p420 q420; cases e420; replace p420 := eq_true p420; replace q420 := eq_true q420) | (go_at_call 24; (with_reducible refine (cohousingref23_In.calls k2 _ _ t413 (rd t407 (rd l1 0)) t421 _ ?side1 ?side2 A41.out).mono ?_); (case side1 => repeat (first | exact (Kd.R_reads' HO_9.out).2.2 | (with_reducible refine Kd.C_alloc ?_ _) | (with_reducible refine Kd.C_drewN ?_ _) | (with_reducible refine Kd.C_drew ?_))); (case side2 => exact (Kd.R_reads' HO_9.out).2.1); rintro e w' ⟨rfl, ⟨nd, rfl⟩⟩))
                  go_roundg k2
                  case measure => have := HJ3.out; have := HK2.out; omega
                  case rel => exact ⟨(wrap64 (x45_2 + 1)), (by first | rfl | (simp; done) | (simp [*]; done)), H', ⟨by have := HJ3.out; have := HK2.out; omega⟩, ⟨by (with_reducible repeat (first | apply Kd.R_alloc | apply Kd.R_drewN | apply Kd.R_drew)); exact HO_6.out⟩, ⟨by (with_reducible repeat (first | apply Kd.R_alloc | apply Kd.R_drewN | apply Kd.R_drew)); exact HO_9.out⟩, ⟨by (with_reducible repeat (first | refine blk_drewN ?_ _ | refine blk_drew ?_ | refine blk_alloc ?_ _)); exact BK404.out⟩, ⟨by repeat (first | (with_reducible first | exact HB.out | apply below_alloc | apply pw_below_drewN | apply below_drew1 | refine below_set ?_ GE404.out | refine below_set ?_ GE417.out) | exact HB.out)⟩⟩
                ·
                 rw [if_neg c40] at H
                 exact absurd H (by simp)
               ·
                rw [if_neg c39] at H
                exact absurd H (by simp)
              ·
               rw [if_neg c38] at H
               have c38b0 : decide (0 ≤ t418) = false := decide_eq_false c38
               clear c38
               have H' := Aside0.mk H
               clear H
               have p416 : 0 ≤ (x45_2 : Int) := of_decide_eq_true (by first | (with_reducible assumption) | assumption)
               have q416 : x45_2 < (l0_0.length : Int) := of_decide_eq_true (by first | (with_reducible assumption) | assumption)
               obtain ⟨ad416, e416, hx416_0, hx416_1⟩ := at_T53 HR0_0.out x45_2 p416 q416
               cases e416
               replace hx416_0 := (HB.out.cell (World.block_lt_of_cell? w _ hx416_0)).trans hx416_0
               replace hx416_1 := (HB.out.cell (World.block_lt_of_cell? w _ hx416_1)).trans hx416_1
               replace p416 := eq_true p416
               replace q416 := eq_true q416
               go_wp2_with (first | ((with_reducible refine gate_dst (N := 11) rfl ?_); (try (refine gate_guard (by rfl) ?_; dsimp only)); refine box_event ?hg (N := 11) ?hd (cs := #[.int .i64 0, .int .i64 0]) (t := 53) ?hr ?_; (case hd => rfl); (case hg => rfl); (case hr => first | (go_simp; done) | (go_simp; rfl)); intro gb417 hg w57 hbox hb; have n0_ := Aside0.mk (Kd.R_below (by (with_reducible repeat (first | apply Kd.R_alloc | apply Kd.R_drewN | apply Kd.R_drew)); exact HO_6.out) hb); have n1_ := Aside0.mk (Kd.R_below (by (with_reducible repeat (first | apply Kd.R_alloc | apply Kd.R_drewN | apply Kd.R_drew)); exact HO_9.out) hb); have n2_ := Aside0.mk (blk_below (g := gb404) (o := .cells #[.slice (some ad416) l0_0.length c0_0, .slice (some ad412) l0_1.length c0_1] 25 (0, 0)) (by (with_reducible repeat (first | refine blk_drewN ?_ _ | refine blk_drew ?_ | refine blk_alloc ?_ _)); exact BK404.out) hb); have n3_ := Aside0.mk (below_step (by repeat (first | (with_reducible first | exact HB.out | apply below_alloc | apply pw_below_drewN | apply below_drew1 | refine below_set ?_ GE404.out) | exact HB.out)) hb); have n4_ := Aside0.mk (hbox); have n5_ := Aside0.mk ((by rw [hg]; exact (below_size (by repeat (first | (with_reducible first | exact HB.out | apply below_alloc | apply pw_below_drewN | apply below_drew1 | refine below_set ?_ GE404.out) | exact HB.out))) : w.heap.size ≤ gb417)); have n6_ := Aside0.mk ((by rw [hg]; exact (below_size (by repeat (first | (with_reducible first | exact HB.out | apply below_alloc | apply pw_below_drewN | apply below_drew1 | refine below_set ?_ GE404.out) | exact HB.out))) : w.heap.size ≤ gb417)); have n7_ := Aside0.mk ((by rw [hg]; exact Nat.ne_of_lt (blk_lt (g := gb404) (o := .cells #[.slice (some ad416) l0_0.length c0_0, .slice (some ad412) l0_1.length c0_1] 25 (0, 0)) (by (with_reducible repeat (first | refine blk_drewN ?_ _ | refine blk_drew ?_ | refine blk_alloc ?_ _)); exact BK404.out)) : gb404 ≠ gb417)); have n8_ := Aside0.mk ((by rw [hg]; exact Nat.ne_of_gt (blk_lt (g := gb404) (o := .cells #[.slice (some ad416) l0_0.length c0_0, .slice (some ad412) l0_1.length c0_1] 25 (0, 0)) (by (with_reducible repeat (first | refine blk_drewN ?_ _ | refine blk_drew ?_ | refine blk_alloc ?_ _)); exact BK404.out)) : gb417 ≠ gb404)); clear HO_6; clear HO_9; clear BK404; clear HB; have HO_6 := n0_; have HO_9 := n1_; have BK404 := n2_; have HB := n3_; have BK417 := n4_; have GW417 := n5_; have GE417 := n6_; have NB404_417 := n7_; have NB417_404 := n8_; clear n0_ n1_ n2_ n3_ n4_ n5_ n6_ n7_ n8_; clear hb hbox hg; have hnb58 := NB417_404.out; have hnc58 := NB404_417.out; have hcz59_0 : w57.cell? ⟨gb417, 0, none⟩ = some (.int .i64 0) := (blk_cell BK417.out 0).trans rfl; have hcz59_1 : w57.cell? ⟨gb417, 1, none⟩ = some (.int .i64 0) := (blk_cell BK417.out 1).trans rfl; have hfz59_0 := blk_frozen BK417.out 0; have hfz59_1 := blk_frozen BK417.out 1; obtain ⟨Ao60, co60, eo60⟩ := Kd.R_slice HO_9.out; subst eo60) | ((with_reducible refine gate_callee (f := 24) rfl ?_); refine goesL_ (some 52) rfl rfl Try.func24 (by kernel_rfl) rfl #[.slice Ao60 t413.length co60, .int .i64 ((rd_T53 l0_0 x45_2).f0)] rfl (by (try simp only [List.map_toArray, List.map_cons, List.map_nil]); first | done | rfl | (simp only [List.length_drop, List.length_take]; rfl)) ?_; (with_reducible refine (cohousingref23_In.calls k2 _ _ t413 ((rd_T53 l0_0 x45_2).f0) t418 _ ?side1 ?side2 A29.out).mono ?_); (case side1 => refine (Kd.R_reads' (e := 3) (base := w.heap.size) (ok := fun k_ => some k_ ≠ (v408 : Value).ownBlock) (n := t413.length) (c := co60) ?_).2.2; exact (by (with_reducible repeat (first | apply Kd.R_alloc | apply Kd.R_drewN | apply Kd.R_drew)); exact (Kd.R_mono (Kd.R_far (p := ⟨gb417, 1, none⟩) (Kd.R_far (p := ⟨gb417, 0, none⟩) (Kd.R_types HO_9.out BK417.out (by decide)) (fun _ hk => hk.2) (.int .i64 ((rd_T53 l0_0 x45_2).f0))) (fun _ hk => hk.2) (.int .i64 ((rd_T53 l0_0 x45_2).f1))) (fun _ h_ => h_.1)))); (case side2 => exact (Kd.R_reads' HO_9.out).2.1); rintro e w' ⟨rfl, ⟨nd, rfl⟩⟩; refine ⟨_, rfl, ?_⟩; have hcz61_0 : w57.cell? ⟨gb404, 0, none⟩ = some (.slice (some ad416) l0_0.length c0_0) := (blk_cell BK404.out 0).trans rfl; have hcz61_1 : w57.cell? ⟨gb404, 1, none⟩ = some (.slice (some ad412) l0_1.length c0_1) := (blk_cell BK404.out 1).trans rfl; have hfz61_0 := blk_frozen BK404.out 0; have hfz61_1 := blk_frozen BK404.out 1) | ((with_reducible refine gate_callee (f := 26) rfl ?_); refine goesL_ (some 56) rfl rfl Try.func26 (by kernel_rfl) rfl #[.agg #[.slice (some ad416) l0_0.length c0_0, .slice (some ad412) l0_1.length c0_1], .int .i64 ((rd_T53 l0_0 x45_2).f0)] rfl (by (try simp only [List.map_toArray, List.map_cons, List.map_nil]); first | done | rfl | (simp only [List.length_drop, List.length_take]; rfl)) ?_; (with_reducible refine (cohousinglaw24_occupied.calls k2 _ _ l0_0 _ _ l0_1 ((rd_T53 l0_0 x45_2).f0) false _ ?side1 ?side2 ?side3 ?side4 A30.out).mono ?_); (case side1 => exact Kd.C_below HR0_0.out (by repeat (first | (with_reducible first | exact HB.out | apply below_alloc | apply pw_below_drewN | apply below_drew1 | refine below_set ?_ GE404.out | refine below_set ?_ GE417.out) | exact HB.out))); (case side2 => exact HC0_0.out); (case side3 => exact Kd.C_below HR0_1.out (by repeat (first | (with_reducible first | exact HB.out | apply below_alloc | apply pw_below_drewN | apply below_drew1 | refine below_set ?_ GE404.out | refine below_set ?_ GE417.out) | exact HB.out))); (case side4 => exact HC0_1.out); rintro e w62 ⟨rfl, hb⟩; refine ⟨_, rfl, ?_⟩; have n0_ := Aside0.mk (Kd.R_below (by (with_reducible repeat (first | apply Kd.R_alloc | apply Kd.R_drewN | apply Kd.R_drew)); exact (Kd.R_mono (Kd.R_far (p := ⟨gb417, 1, none⟩) (Kd.R_far (p := ⟨gb417, 0, none⟩) (Kd.R_types HO_6.out BK417.out (by decide)) (fun _ hk => hk.2) (.int .i64 ((rd_T53 l0_0 x45_2).f0))) (fun _ hk => hk.2) (.int .i64 ((rd_T53 l0_0 x45_2).f1))) (fun _ h_ => h_.1))) hb); have n1_ := Aside0.mk (Kd.R_below (by (with_reducible repeat (first | apply Kd.R_alloc | apply Kd.R_drewN | apply Kd.R_drew)); exact (Kd.R_mono (Kd.R_far (p := ⟨gb417, 1, none⟩) (Kd.R_far (p := ⟨gb417, 0, none⟩) (Kd.R_types HO_9.out BK417.out (by decide)) (fun _ hk => hk.2) (.int .i64 ((rd_T53 l0_0 x45_2).f0))) (fun _ hk => hk.2) (.int .i64 ((rd_T53 l0_0 x45_2).f1))) (fun _ h_ => h_.1))) hb); have n2_ := Aside0.mk (blk_below (g := gb404) (o := .cells #[.slice (some ad416) l0_0.length c0_0, .slice (some ad412) l0_1.length c0_1] 25 (0, 0)) (by (with_reducible repeat (first | refine blk_drewN ?_ _ | refine blk_drew ?_ | refine blk_alloc ?_ _)); refine blk_far ?_ NB404_417.out _; (with_reducible repeat (first | refine blk_drewN ?_ _ | refine blk_drew ?_ | refine blk_alloc ?_ _)); refine blk_far ?_ NB404_417.out _; (with_reducible repeat (first | refine blk_drewN ?_ _ | refine blk_drew ?_ | refine blk_alloc ?_ _)); exact BK404.out) hb); have n3_ := Aside0.mk (blk_below (g := gb417) (o := .cells #[.int .i64 ((rd_T53 l0_0 x45_2).f0), .int .i64 ((rd_T53 l0_0 x45_2).f1)] 53 (0, 0)) (by (with_reducible repeat (first | refine blk_drewN ?_ _ | refine blk_drew ?_ | refine blk_alloc ?_ _)); refine blk_put (cs := #[.int .i64 ((rd_T53 l0_0 x45_2).f0), .int .i64 0]) ?_ 1 _ rfl; (with_reducible repeat (first | refine blk_drewN ?_ _ | refine blk_drew ?_ | refine blk_alloc ?_ _)); refine blk_put (cs := #[.int .i64 0, .int .i64 0]) ?_ 0 _ rfl; (with_reducible repeat (first | refine blk_drewN ?_ _ | refine blk_drew ?_ | refine blk_alloc ?_ _)); exact BK417.out) hb); have n4_ := Aside0.mk (below_step (by repeat (first | (with_reducible first | exact HB.out | apply below_alloc | apply pw_below_drewN | apply below_drew1 | refine below_set ?_ GE404.out | refine below_set ?_ GE417.out) | exact HB.out)) hb); clear HO_6; clear HO_9; clear BK404; clear BK417; clear HB; have HO_6 := n0_; have HO_9 := n1_; have BK404 := n2_; have BK417 := n3_; have HB := n4_; clear n0_ n1_ n2_ n3_ n4_; (try clear hb); (try clear hb2); (try clear hk); (try clear hi)))
               go_roundg k2
               case measure => have := HJ3.out; have := HK2.out; omega
               case rel => exact ⟨(wrap64 (x45_2 + 1)), (by first | rfl | (simp; done) | (simp [*]; done)), H', ⟨by have := HJ3.out; have := HK2.out; omega⟩, ⟨by (with_reducible repeat (first | apply Kd.R_alloc | apply Kd.R_drewN | apply Kd.R_drew)); exact HO_6.out⟩, ⟨by (with_reducible repeat (first | apply Kd.R_alloc | apply Kd.R_drewN | apply Kd.R_drew)); exact HO_9.out⟩, ⟨by (with_reducible repeat (first | refine blk_drewN ?_ _ | refine blk_drew ?_ | refine blk_alloc ?_ _)); exact BK404.out⟩, ⟨by repeat (first | (with_reducible first | exact HB.out | apply below_alloc | apply pw_below_drewN | apply below_drew1 | refine below_set ?_ GE404.out | refine below_set ?_ GE417.out) | exact HB.out)⟩⟩
            ·
             rw [if_neg c28] at H
             exact absurd H (by simp)
           ·
            rw [if_neg c27] at H
            exact absurd H (by simp)
          ·
           rw [if_neg c26] at H
           have c26b0 : decide (x45_2 < (l0_0.length : Int)) = false := decide_eq_false c26
           clear c26
           obtain rfl := Option.some.inj H
           go_wp2
           go_ret
           exact ⟨by first | rfl | (simp [errW_none, errW_some] <;> rfl) | (simp [*, errW_none, errW_some] <;> rfl), by repeat (first | (with_reducible first | exact HB.out | apply below_alloc | apply pw_below_drewN | apply below_drew1 | refine below_set ?_ GE404.out) | exact HB.out)⟩
       ·
        rw [if_neg c19] at H
        exact absurd H (by simp)
      ·
       rw [if_neg c18] at H
       exact absurd H (by simp)
     ·
      rw [if_neg c17] at H
      exact absurd H (by simp)
    ·
     replace c16 := Bool.eq_false_iff.mpr c16
     subst c16
     have H1 : (some false) = some r := by rw [if_neg (show ¬ (false = true) by decide)] at H; exact H
     clear H
     have H := H1
     clear H1
     obtain rfl := Option.some.inj H
     have hcz63_0 : wc.cell? ⟨gb404, 0, none⟩ = some (.slice A0_0 l0_0.length c0_0) := (blk_cell BK404.out 0).trans rfl
     have hcz63_1 : wc.cell? ⟨gb404, 1, none⟩ = some (.slice A0_1 l0_1.length c0_1) := (blk_cell BK404.out 1).trans rfl
     have hfz63_0 := blk_frozen BK404.out 0
     have hfz63_1 := blk_frozen BK404.out 1
     go_wp2_with (first | ((with_reducible refine gate_callee (f := 27) rfl ?_); refine goesL_ (some 28) rfl rfl Try.func27 (by kernel_rfl) rfl #[.agg #[.slice A0_0 l0_0.length c0_0, .slice A0_1 l0_1.length c0_1], .slice A1 l1.length c1] rfl (by (try simp only [List.map_toArray, List.map_cons, List.map_nil]); first | done | rfl | (simp only [List.length_drop, List.length_take]; rfl)) ?_; (with_reducible refine (cohousinglaw24_solved.calls kj3 _ _ l0_0 _ _ l0_1 _ _ l1 t407 false _ ?side1 ?side2 ?side3 ?side4 ?side5 ?side6 A15.out).mono ?_); (case side1 => repeat (first | exact (Kd.C_below HR0_0.out HB.out) | (with_reducible refine Kd.C_alloc ?_ _) | (with_reducible refine Kd.C_drewN ?_ _) | (with_reducible refine Kd.C_drew ?_))); (case side2 => exact HC0_0.out); (case side3 => repeat (first | exact (Kd.C_below HR0_1.out HB.out) | (with_reducible refine Kd.C_alloc ?_ _) | (with_reducible refine Kd.C_drewN ?_ _) | (with_reducible refine Kd.C_drew ?_))); (case side4 => exact HC0_1.out); (case side5 => repeat (first | exact (Kd.C_below HR1.out HB.out) | (with_reducible refine Kd.C_alloc ?_ _) | (with_reducible refine Kd.C_drewN ?_ _) | (with_reducible refine Kd.C_drew ?_))); (case side6 => exact HC1.out); rintro e w64 ⟨v408, rfl, ho0, hb⟩; refine ⟨_, rfl, ?_⟩; have n0_ := Aside0.mk (Kd.R_lower ho0 (below_size (by repeat (first | (with_reducible first | exact HB.out | apply below_alloc | apply pw_below_drewN | apply below_drew1 | refine below_set ?_ GE404.out) | exact HB.out)))); have n1_ := Aside0.mk (blk_below (g := gb404) (o := .cells #[.slice A0_0 l0_0.length c0_0, .slice A0_1 l0_1.length c0_1] 25 (0, 0)) (by (with_reducible repeat (first | refine blk_drewN ?_ _ | refine blk_drew ?_ | refine blk_alloc ?_ _)); exact BK404.out) hb); have n2_ := Aside0.mk (below_step (by repeat (first | (with_reducible first | exact HB.out | apply below_alloc | apply pw_below_drewN | apply below_drew1 | refine below_set ?_ GE404.out) | exact HB.out)) hb); clear BK404; clear HB; have HO409 := n0_; have BK404 := n1_; have HB := n2_; clear n0_ n1_ n2_; (try clear hb); (try clear hb2); (try clear hk); (try clear hi); (try clear ho0)))
     go_ret
     exact ⟨by first | rfl | (simp [errW_none, errW_some] <;> rfl) | (simp [*, errW_none, errW_some] <;> rfl), by repeat (first | (with_reducible first | exact HB.out | apply below_alloc | apply pw_below_drewN | apply below_drew1 | refine below_set ?_ GE404.out) | exact HB.out)⟩

end Go.Proofs.Ytjgnkhfgmpaljaa.P
