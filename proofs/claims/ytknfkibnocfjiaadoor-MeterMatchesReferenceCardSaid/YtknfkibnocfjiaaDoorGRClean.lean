/- What Clean of the reference implementation computes: cleanL. -/
import Derived.Test.YtknfkibnocfjiaaDoorGRBase
import Derived.Test.YtknfkibnocfjiaaDoorGRLast
namespace Go.Proofs.YtknfkibnocfjiaaDoor.P
open Go.RowKit Go.Proofs.YtknfkibnocfjiaaDoorW.PrintWords Go.Proofs.YtknfkibnocfjiaaDoorW.PrintLast Go.Proofs.YtknfkibnocfjiaaDoorW.PrintMore Go.Proofs.YtknfkibnocfjiaaDoor.M
set_option linter.unusedVariables false
set_option linter.unusedSimpArgs false
theorem mul_bnd {a b : Int} (ha : 1 ≤ a ∧ a ≤ 10000) (hb : -36524 ≤ b ∧ b ≤ 36524) : -365240000 ≤ a * b ∧ a * b ≤ 365240000 := by
  constructor
  · have h2 : a * (-36524) ≤ a * b := Int.mul_le_mul_of_nonneg_left hb.1 (by omega)
    omega
  · have h2 : a * b ≤ a * 36524 := Int.mul_le_mul_of_nonneg_left hb.2 (by omega)
    omega
set_option maxHeartbeats 32000000 in
set_option maxRecDepth 100000 in
theorem rclean_calls (m : S25) (A0 : Option Addr) (c0 : Nat) (l : List S43) (known : Int) (w : World) (hr0 : Kd.C k43 w A0 l.length l) (hc0 : l.length ≤ c0) :
    Calls Tryd.prog 14 #[.agg #[.int .i64 m.f0, .int .i64 m.f1, .int .i64 m.f2, .int .i64 m.f3, .int .i64 m.f4.f0, .int .i64 m.f4.f1], .slice A0 l.length c0, .int .i64 known] w (RowPost43 w (cleanL m l known)) := by
  have hu43 := Tryd.underlying43
  have hu25 := Tryd.underlying25
  have hu23 := Tryd.underlying23
  have HR0 := Aside0.mk hr0
  have HB := Aside0.mk (below_alloc (Below.refl w.heap.size w) (.cells #[.int .i64 m.f0, .int .i64 m.f1, .int .i64 m.f2, .int .i64 m.f3, .int .i64 m.f4.f0, .int .i64 m.f4.f1] 25))
  have BK := Aside0.mk (blk_new w (.cells #[.int .i64 m.f0, .int .i64 m.f1, .int .i64 m.f2, .int .i64 m.f3, .int .i64 m.f4.f0, .int .i64 m.f4.f1] 25))
  clear hr0
  by_cases hall : (validM m && readingsL l && inB known 0 36524) = true
  · have hv : validM m = true := by simp only [Bool.and_eq_true] at hall; exact hall.1.1
    have hok : readingsL l = true := by simp only [Bool.and_eq_true] at hall; exact hall.1.2
    have hkn : inB known 0 36524 = true := by simp only [Bool.and_eq_true] at hall; exact hall.2
    have HE : Aside0 (cleanL m l known = if ((colL m known l).any fun r => decide (pow10 m.f1 ≤ r.f2)) = true then ([], 1)
      else if ((List.range ((colL m known l).length - 1)).any (rangeBad m (colL m known l))) = true then ([], 3)
      else if ((List.range ((colL m known l).length - 1)).any (flowBad m (colL m known l))) = true then ([], 30)
      else (colL m known l, 0)) := ⟨by rw [cleanL, if_pos hall]⟩
    have CM := Aside0.mk (qmeter_calls m true hv)
    have CR := Aside0.mk (fun W h => rreadings_calls A0 c0 l true hok W h hc0)
    have CD := Aside0.mk (qday_calls known true hkn)
    have CL := Aside0.mk (fun W h => rlast_calls m A0 c0 l known W h hc0 hv hok)
    obtain ⟨hm0, hm1, hm2, hm3, hm4, hm5, hm6⟩ := validM_bounds hv
    have hd0 : 0 ≤ m.f1 := by omega
    have hd6 : m.f1 ≤ 6 := by omega
    have CP := Aside0.mk (qpower_calls m.f1 hd0 hd6)
    have HCO : Aside0 (∀ x ∈ colL m known l, readingOk x = true) := ⟨fun x hx => by
      have h := mem_colL hx
      unfold readingsL at hok
      simp only [Bool.and_eq_true, decide_eq_true_eq, List.all_eq_true] at hok
      exact hok.2 x h.1⟩
    have hcl : (colL m known l).length ≤ 1000 := by
      have h := len_colL m known l
      unfold readingsL at hok
      simp only [Bool.and_eq_true, decide_eq_true_eq] at hok
      omega
    have hpb := pow10_bound hd0 hd6
    clear hall hv hok hkn
    go_enter Tryd.func14, Tryd.ntmps14
    go_upto_region 4 with (first
      | (go_at_call 31; (with_reducible refine (CM.out _).mono ?_); rintro e w1 ⟨rfl, hb⟩; replace HB := Aside0.mk (below_step HB.out hb); replace BK := Aside0.mk (blk_below BK.out hb); have z0 : w1.cell? ⟨w.heap.size, 0, none⟩ = some (.int .i64 m.f0) := (blk_cell (BK.out) 0).trans rfl; have z1 : w1.cell? ⟨w.heap.size, 1, none⟩ = some (.int .i64 m.f1) := (blk_cell (BK.out) 1).trans rfl; have z2 : w1.cell? ⟨w.heap.size, 2, none⟩ = some (.int .i64 m.f2) := (blk_cell (BK.out) 2).trans rfl; have z3 : w1.cell? ⟨w.heap.size, 3, none⟩ = some (.int .i64 m.f3) := (blk_cell (BK.out) 3).trans rfl; have z4 : w1.cell? ⟨w.heap.size, 4, none⟩ = some (.int .i64 m.f4.f0) := (blk_cell (BK.out) 4).trans rfl; have z5 : w1.cell? ⟨w.heap.size, 5, none⟩ = some (.int .i64 m.f4.f1) := (blk_cell (BK.out) 5).trans rfl; clear hb)
      | (go_at_call 25; (with_reducible refine (CR.out _ ?s1).mono ?_); (case s1 => exact Kd.C_below HR0.out HB.out); rintro e w2 ⟨rfl, hb⟩; replace HB := Aside0.mk (below_step HB.out hb); replace BK := Aside0.mk (blk_below BK.out hb); have z0 : w2.cell? ⟨w.heap.size, 0, none⟩ = some (.int .i64 m.f0) := (blk_cell (BK.out) 0).trans rfl; have z1 : w2.cell? ⟨w.heap.size, 1, none⟩ = some (.int .i64 m.f1) := (blk_cell (BK.out) 1).trans rfl; have z2 : w2.cell? ⟨w.heap.size, 2, none⟩ = some (.int .i64 m.f2) := (blk_cell (BK.out) 2).trans rfl; have z3 : w2.cell? ⟨w.heap.size, 3, none⟩ = some (.int .i64 m.f3) := (blk_cell (BK.out) 3).trans rfl; have z4 : w2.cell? ⟨w.heap.size, 4, none⟩ = some (.int .i64 m.f4.f0) := (blk_cell (BK.out) 4).trans rfl; have z5 : w2.cell? ⟨w.heap.size, 5, none⟩ = some (.int .i64 m.f4.f1) := (blk_cell (BK.out) 5).trans rfl; clear hb)
      | (go_at_call 32; (with_reducible refine (CD.out _).mono ?_); rintro e w3 ⟨rfl, hb⟩; replace HB := Aside0.mk (below_step HB.out hb); replace BK := Aside0.mk (blk_below BK.out hb); have z0 : w3.cell? ⟨w.heap.size, 0, none⟩ = some (.int .i64 m.f0) := (blk_cell (BK.out) 0).trans rfl; have z1 : w3.cell? ⟨w.heap.size, 1, none⟩ = some (.int .i64 m.f1) := (blk_cell (BK.out) 1).trans rfl; have z2 : w3.cell? ⟨w.heap.size, 2, none⟩ = some (.int .i64 m.f2) := (blk_cell (BK.out) 2).trans rfl; have z3 : w3.cell? ⟨w.heap.size, 3, none⟩ = some (.int .i64 m.f3) := (blk_cell (BK.out) 3).trans rfl; have z4 : w3.cell? ⟨w.heap.size, 4, none⟩ = some (.int .i64 m.f4.f0) := (blk_cell (BK.out) 4).trans rfl; have z5 : w3.cell? ⟨w.heap.size, 5, none⟩ = some (.int .i64 m.f4.f1) := (blk_cell (BK.out) 5).trans rfl; clear hb)
      | (go_at_call 33; (with_reducible refine (CL.out _ ?s1).mono ?_); (case s1 => exact Kd.C_below HR0.out HB.out); rintro e w4 ⟨v, rfl, hR, hb⟩; obtain ⟨A1, c1, rfl, hl1, hc1⟩ := Kd.R_reads hR; have HRet := Aside0.mk (Kd.R_lower hR HB.out.size); have HR1 := Aside0.mk hc1; have HL1 := Aside0.mk hl1; replace HB := Aside0.mk (below_step HB.out hb); replace BK := Aside0.mk (blk_below BK.out hb); have z0 : w4.cell? ⟨w.heap.size, 0, none⟩ = some (.int .i64 m.f0) := (blk_cell (BK.out) 0).trans rfl; have z1 : w4.cell? ⟨w.heap.size, 1, none⟩ = some (.int .i64 m.f1) := (blk_cell (BK.out) 1).trans rfl; have z2 : w4.cell? ⟨w.heap.size, 2, none⟩ = some (.int .i64 m.f2) := (blk_cell (BK.out) 2).trans rfl; have z3 : w4.cell? ⟨w.heap.size, 3, none⟩ = some (.int .i64 m.f3) := (blk_cell (BK.out) 3).trans rfl; have z4 : w4.cell? ⟨w.heap.size, 4, none⟩ = some (.int .i64 m.f4.f0) := (blk_cell (BK.out) 4).trans rfl; have z5 : w4.cell? ⟨w.heap.size, 5, none⟩ = some (.int .i64 m.f4.f1) := (blk_cell (BK.out) 5).trans rfl; clear hb; clear hR hl1 hc1))
    clear CM CR CD CL HR0 z0 z1 z2 z3 z4 z5
    generalize hcc : colL m known l = c at *
    clear hcc
    go_wp2
    go_loopg [9] c.length (fun gk v9 w' => ∃ i : Nat, v9 = .int .i64 i ∧ Aside0 (i ≤ c.length ∧ gk = c.length - i) ∧ Aside0 (∀ j : Nat, j < i → decide (pow10 m.f1 ≤ (rd_T43 c (j : Int)).f2) = false) ∧ Aside0 (Below w4.heap.size w4 w'))
    case atStart => exact ⟨0, rfl, ⟨Nat.zero_le _, rfl⟩, ⟨fun j hj => absurd hj (Nat.not_lt_zero j)⟩, ⟨Below.refl _ _⟩⟩
    case round =>
      obtain ⟨i, rfl, HI, HD, HK⟩ := hrel
      have hi := HI.out.1
      by_cases hlt : i < c.length
      · obtain ⟨ad, e, x0, x1, x2, x3⟩ := at_T43 HR1.out (i : Int) (by omega) (by omega)
        cases e
        simp only [Int.toNat_natCast] at x0 x1 x2 x3
        replace x0 := (HK.out.cell (World.block_lt_of_cell? w4 _ x0)).trans x0
        replace x1 := (HK.out.cell (World.block_lt_of_cell? w4 _ x1)).trans x1
        replace x2 := (HK.out.cell (World.block_lt_of_cell? w4 _ x2)).trans x2
        replace x3 := (HK.out.cell (World.block_lt_of_cell? w4 _ x3)).trans x3
        have HLT := Aside0.mk hlt
        have j0 : (0 : Int) ≤ (i : Int) := by omega
        have j1 : (i : Int) < (c.length : Int) := by omega
        have g1 : decide ((i : Int) < (c.length : Int)) = true := decide_eq_true j1
        have g2 : decide (i < c.length) = true := decide_eq_true hlt
        have hw1 : IntKind.i64.wrap ((i : Int) + 1) = (i : Int) + 1 := Go.IntWalk.i64_in _ (by omega)
        have BKr := Aside0.mk (blk_below BK.out HK.out)
        have HBad : Aside0 (decide (pow10 m.f1 ≤ (rd_T43 c (i : Int)).f2) = true → cleanL m l known = ([], 1)) := ⟨fun hb => by
          rw [HE.out, if_pos]
          rw [List.any_eq_true]
          exact ⟨c[i], List.getElem_mem hlt, by rw [← rd43_get hlt]; exact hb⟩⟩
        have HGood : Aside0 (decide (pow10 m.f1 ≤ (rd_T43 c (i : Int)).f2) = false → ∀ j : Nat, j < i + 1 → decide (pow10 m.f1 ≤ (rd_T43 c (j : Int)).f2) = false) := ⟨fun hb j hj => by
          rcases Nat.lt_or_ge j i with h | h
          · exact HD.out j h
          · obtain rfl : j = i := by omega
            exact hb⟩
        generalize rd_T43 c (i : Int) = x at *
        clear hlt
        go_upto_region 7 with (fail)
        clear g1 g2
        have z0 : wr.cell? ⟨w.heap.size, 0, none⟩ = some (.int .i64 m.f0) := (blk_cell (BKr.out) 0).trans rfl
        have z1 : wr.cell? ⟨w.heap.size, 1, none⟩ = some (.int .i64 m.f1) := (blk_cell (BKr.out) 1).trans rfl
        have z2 : wr.cell? ⟨w.heap.size, 2, none⟩ = some (.int .i64 m.f2) := (blk_cell (BKr.out) 2).trans rfl
        have z3 : wr.cell? ⟨w.heap.size, 3, none⟩ = some (.int .i64 m.f3) := (blk_cell (BKr.out) 3).trans rfl
        have z4 : wr.cell? ⟨w.heap.size, 4, none⟩ = some (.int .i64 m.f4.f0) := (blk_cell (BKr.out) 4).trans rfl
        have z5 : wr.cell? ⟨w.heap.size, 5, none⟩ = some (.int .i64 m.f4.f1) := (blk_cell (BKr.out) 5).trans rfl
        have HSC := Aside0.mk (fun W (h : Below wr.heap.size wr W) => show Below wr.heap.size wr W ∧ W.cell? ⟨w.heap.size, 0, none⟩ = some (.int .i64 m.f0) ∧ W.cell? ⟨w.heap.size, 1, none⟩ = some (.int .i64 m.f1) ∧ W.cell? ⟨w.heap.size, 2, none⟩ = some (.int .i64 m.f2) ∧ W.cell? ⟨w.heap.size, 3, none⟩ = some (.int .i64 m.f3) ∧ W.cell? ⟨w.heap.size, 4, none⟩ = some (.int .i64 m.f4.f0) ∧ W.cell? ⟨w.heap.size, 5, none⟩ = some (.int .i64 m.f4.f1) ∧ W.cell? (ad.add (i * 4)) = some (.int .i64 x.f0) ∧ W.cell? ⟨(ad.add (i * 4)).block, (ad.add (i * 4)).off + 1, none⟩ = some (.int .i64 x.f1) ∧ W.cell? ⟨(ad.add (i * 4)).block, (ad.add (i * 4)).off + 2, none⟩ = some (.int .i64 x.f2) ∧ W.cell? ⟨(ad.add (i * 4)).block, (ad.add (i * 4)).off + 3, none⟩ = some (.int .i64 x.f3) from ⟨h, (blk_cell (blk_below BKr.out h) 0).trans rfl, (blk_cell (blk_below BKr.out h) 1).trans rfl, (blk_cell (blk_below BKr.out h) 2).trans rfl, (blk_cell (blk_below BKr.out h) 3).trans rfl, (blk_cell (blk_below BKr.out h) 4).trans rfl, (blk_cell (blk_below BKr.out h) 5).trans rfl, cell_on h x0, cell_on h x1, cell_on h x2, cell_on h x3⟩)
        go_cut [43] (fun v43 wd => v43 = .bool (decide (pow10 m.f1 ≤ x.f2)) ∧ Aside0 (Below wr.heap.size wr wd))
        case first =>
          clear HBad HGood
          generalize pow10 m.f1 = p at *
          go_region_held3 (fun W => Below wr.heap.size wr W ∧ W.cell? ⟨w.heap.size, 0, none⟩ = some (.int .i64 m.f0) ∧ W.cell? ⟨w.heap.size, 1, none⟩ = some (.int .i64 m.f1) ∧ W.cell? ⟨w.heap.size, 2, none⟩ = some (.int .i64 m.f2) ∧ W.cell? ⟨w.heap.size, 3, none⟩ = some (.int .i64 m.f3) ∧ W.cell? ⟨w.heap.size, 4, none⟩ = some (.int .i64 m.f4.f0) ∧ W.cell? ⟨w.heap.size, 5, none⟩ = some (.int .i64 m.f4.f1) ∧ W.cell? (ad.add (i * 4)) = some (.int .i64 x.f0) ∧ W.cell? ⟨(ad.add (i * 4)).block, (ad.add (i * 4)).off + 1, none⟩ = some (.int .i64 x.f1) ∧ W.cell? ⟨(ad.add (i * 4)).block, (ad.add (i * 4)).off + 2, none⟩ = some (.int .i64 x.f2) ∧ W.cell? ⟨(ad.add (i * 4)).block, (ad.add (i * 4)).off + 3, none⟩ = some (.int .i64 x.f3))
            (refine HSC.out _ (by first | exact HW2.out | exact below_drew HW2.out | exact Below.refl _ _ | exact below_drew (Below.refl _ _) | exact pw_below_drewN (Below.refl _ _) _))
            ((go_at_call 34; (with_reducible refine (CP.out _).mono ?_); rintro e w2 ⟨rfl, hb⟩; have HW2 : Aside0 (Below wr.heap.size wr w2) := ⟨by first | exact below_then (below_drew (Below.refl _ _)) (Nat.le_refl _) hb | exact below_then (pw_below_drewN (Below.refl _ _) _) (Nat.le_refl _) hb | exact hb⟩; clear hb))
          all_goals go_wp2
          all_goals go_meet
          case rel => exact ⟨rfl, HW2⟩
        case rest =>
          obtain ⟨rfl, HWq⟩ := hcut
          have HKc := Aside0.mk (below_step HK.out HWq.out)
          clear z0 z1 z2 z3 z4 z5 x0 x1 x2 x3 HSC BKr
          cases hb : decide (pow10 m.f1 ≤ x.f2) with
          | true =>
            have HE1 := Aside0.mk (HBad.out hb)
            clear hb HBad HGood
            go_wp2
            go_ret2
            rw [HE1.out]
            exact ⟨_, rfl, Kd.R_nil _ _ _ _ _, below_step HB.out HKc.out⟩
          | false =>
            have HD' := Aside0.mk (HGood.out hb)
            clear hb HBad HGood
            go_wp2
            go_roundg (c.length - (i + 1))
            case measure => have := HI.out; have := HLT.out; omega
            case rel => exact ⟨i + 1, by go_num, ⟨by have := HLT.out; omega, rfl⟩, HD', HKc⟩
      · obtain rfl : i = c.length := by omega
        have HVal : Aside0 (∀ x ∈ c, 0 ≤ x.f2 ∧ x.f2 < pow10 m.f1) := ⟨fun x hx => by
          obtain ⟨j, hj, rfl⟩ := List.getElem_of_mem hx
          have h1 := HD.out j hj
          have h2 := readingOk_bounds (HCO.out _ hx)
          rw [rd43_get hj] at h1
          exact ⟨h2.2.2.2.1, Int.not_le.1 (of_decide_eq_false h1)⟩⟩
        have HE2 : Aside0 (cleanL m l known = if ((List.range (c.length - 1)).any (rangeBad m c)) = true then ([], 3) else if ((List.range (c.length - 1)).any (flowBad m c)) = true then ([], 30) else (c, 0)) := ⟨by
          rw [HE.out, if_neg]
          rw [all43_any HD.out]; decide⟩
        have g1 : decide ((c.length : Int) < (c.length : Int)) = false := decide_eq_false (by omega)
        have g2 : decide (c.length < c.length) = false := decide_eq_false (by omega)
        clear HE HD HI hlt hi
        go_wp2
        clear g1 g2
        go_loopg [10] (c.length - 1) (fun gk v10 w' => ∃ i : Nat, v10 = .int .i64 ((i : Int) + 1) ∧ Aside0 (i ≤ c.length - 1 ∧ gk = c.length - 1 - i) ∧ Aside0 (∀ j : Nat, j < i → rangeBad m c j = false) ∧ Aside0 (Below w4.heap.size w4 w'))
        case atStart => exact ⟨0, rfl, ⟨Nat.zero_le _, rfl⟩, ⟨fun j hj => absurd hj (Nat.not_lt_zero j)⟩, HK⟩
        case round =>
          clear HK
          obtain ⟨i, rfl, HI, HD, HK⟩ := hrel
          have hi := HI.out.1
          by_cases hlt : i < c.length - 1
          · obtain ⟨ad, e, x0, x1, x2, x3⟩ := at_T43 HR1.out ((i : Nat) : Int) (by omega) (by omega)
            cases e
            obtain ⟨ad', e, y0, y1, y2, y3⟩ := at_T43 HR1.out ((i + 1 : Nat) : Int) (by omega) (by omega)
            cases e
            simp only [Int.toNat_natCast] at x0 x1 x2 x3 y0 y1 y2 y3
            replace x0 := (HK.out.cell (World.block_lt_of_cell? w4 _ x0)).trans x0
            replace x1 := (HK.out.cell (World.block_lt_of_cell? w4 _ x1)).trans x1
            replace x2 := (HK.out.cell (World.block_lt_of_cell? w4 _ x2)).trans x2
            replace x3 := (HK.out.cell (World.block_lt_of_cell? w4 _ x3)).trans x3
            replace y0 := (HK.out.cell (World.block_lt_of_cell? w4 _ y0)).trans y0
            replace y1 := (HK.out.cell (World.block_lt_of_cell? w4 _ y1)).trans y1
            replace y2 := (HK.out.cell (World.block_lt_of_cell? w4 _ y2)).trans y2
            replace y3 := (HK.out.cell (World.block_lt_of_cell? w4 _ y3)).trans y3
            have HLT := Aside0.mk hlt
            have j1 : ((i : Int) + 1) < (c.length : Int) := by omega
            have j2 : (i : Int) < (c.length : Int) := by omega
            have j3 : (0 : Int) ≤ (i : Int) := by omega
            have j4 : (0 : Int) ≤ (i : Int) + 1 := by omega
            have hti : ((i : Int) + 1).toNat = i + 1 := by omega
            have g1 : decide ((i : Int) + 1 < (c.length : Int)) = true := decide_eq_true j1
            have hw1 : IntKind.i64.wrap ((i : Int) + 1 + 1) = (i : Int) + 1 + 1 := Go.IntWalk.i64_in _ (by omega)
            have hw4 : IntKind.i64.wrap ((i : Int) + 1 - 1) = (i : Int) := by rw [Int.add_sub_cancel]; exact Go.IntWalk.i64_in _ (by omega)
            have hw5 : IntKind.i64.wrap (i : Int) = (i : Int) := Go.IntWalk.i64_in _ (by omega)
            have hxo := readingOk_bounds (HCO.out _ (show rd_T43 c ((i : Nat) : Int) ∈ c by rw [rd43_get (show i < c.length by omega)]; exact List.getElem_mem _))
            have hyo := readingOk_bounds (HCO.out _ (show rd_T43 c ((i + 1 : Nat) : Int) ∈ c by rw [rd43_get (show i + 1 < c.length by omega)]; exact List.getElem_mem _))
            have hgap : Aside0 (gapF m c i = m.f2 * ((rd_T43 c ((i + 1 : Nat) : Int)).f1 - (rd_T43 c (i : Int)).f1)) := ⟨rfl⟩
            have BKr := Aside0.mk (blk_below BK.out HK.out)
            generalize hx : rd_T43 c (i : Int) = x at *
            generalize hy : rd_T43 c ((i + 1 : Nat) : Int) = y at *
            have hxF := Aside0.mk hx
            have hyF : Aside0 (rd_T43 c ((i : Int) + 1) = y) := ⟨hy⟩
            clear hx hy hlt
            have hw2 : IntKind.i64.wrap (y.f1 - x.f1) = y.f1 - x.f1 := Go.IntWalk.i64_in _ (by omega)
            have hmulb : -365240000 ≤ m.f2 * (y.f1 - x.f1) ∧ m.f2 * (y.f1 - x.f1) ≤ 365240000 := mul_bnd hm2 (by omega)
            have hw3 : IntKind.i64.wrap (m.f2 * (y.f1 - x.f1)) = m.f2 * (y.f1 - x.f1) := Go.IntWalk.i64_in _ (by omega)
            clear hxo hyo hmulb
            have HBad : Aside0 (decide (pow10 m.f1 ≤ m.f2 * (y.f1 - x.f1)) = true → cleanL m l known = ([], 3)) := ⟨fun hb => by
              rw [HE2.out, if_pos]
              rw [List.any_eq_true]
              exact ⟨i, List.mem_range.2 HLT.out, by unfold rangeBad; rw [hgap.out]; exact hb⟩⟩
            have HGood : Aside0 (decide (pow10 m.f1 ≤ m.f2 * (y.f1 - x.f1)) = false → ∀ j : Nat, j < i + 1 → rangeBad m c j = false) := ⟨fun hb j hj => by
              rcases Nat.lt_or_ge j i with h | h
              · exact HD.out j h
              · obtain rfl : j = i := by omega
                unfold rangeBad; rw [hgap.out]; exact hb⟩
            clear hgap hxF hyF
            go_upto_region 12 with (fail)
            clear g1
            have z0 : wr.cell? ⟨w.heap.size, 0, none⟩ = some (.int .i64 m.f0) := (blk_cell (BKr.out) 0).trans rfl
            have z1 : wr.cell? ⟨w.heap.size, 1, none⟩ = some (.int .i64 m.f1) := (blk_cell (BKr.out) 1).trans rfl
            have z2 : wr.cell? ⟨w.heap.size, 2, none⟩ = some (.int .i64 m.f2) := (blk_cell (BKr.out) 2).trans rfl
            have z3 : wr.cell? ⟨w.heap.size, 3, none⟩ = some (.int .i64 m.f3) := (blk_cell (BKr.out) 3).trans rfl
            have z4 : wr.cell? ⟨w.heap.size, 4, none⟩ = some (.int .i64 m.f4.f0) := (blk_cell (BKr.out) 4).trans rfl
            have z5 : wr.cell? ⟨w.heap.size, 5, none⟩ = some (.int .i64 m.f4.f1) := (blk_cell (BKr.out) 5).trans rfl
            have HSC := Aside0.mk (fun W (h : Below wr.heap.size wr W) => show Below wr.heap.size wr W ∧ W.cell? ⟨w.heap.size, 0, none⟩ = some (.int .i64 m.f0) ∧ W.cell? ⟨w.heap.size, 1, none⟩ = some (.int .i64 m.f1) ∧ W.cell? ⟨w.heap.size, 2, none⟩ = some (.int .i64 m.f2) ∧ W.cell? ⟨w.heap.size, 3, none⟩ = some (.int .i64 m.f3) ∧ W.cell? ⟨w.heap.size, 4, none⟩ = some (.int .i64 m.f4.f0) ∧ W.cell? ⟨w.heap.size, 5, none⟩ = some (.int .i64 m.f4.f1) ∧ W.cell? (ad.add (i * 4)) = some (.int .i64 x.f0) ∧ W.cell? ⟨(ad.add (i * 4)).block, (ad.add (i * 4)).off + 1, none⟩ = some (.int .i64 x.f1) ∧ W.cell? ⟨(ad.add (i * 4)).block, (ad.add (i * 4)).off + 2, none⟩ = some (.int .i64 x.f2) ∧ W.cell? ⟨(ad.add (i * 4)).block, (ad.add (i * 4)).off + 3, none⟩ = some (.int .i64 x.f3) ∧ W.cell? (ad.add ((i + 1) * 4)) = some (.int .i64 y.f0) ∧ W.cell? ⟨(ad.add ((i + 1) * 4)).block, (ad.add ((i + 1) * 4)).off + 1, none⟩ = some (.int .i64 y.f1) ∧ W.cell? ⟨(ad.add ((i + 1) * 4)).block, (ad.add ((i + 1) * 4)).off + 2, none⟩ = some (.int .i64 y.f2) ∧ W.cell? ⟨(ad.add ((i + 1) * 4)).block, (ad.add ((i + 1) * 4)).off + 3, none⟩ = some (.int .i64 y.f3) from ⟨h, (blk_cell (blk_below BKr.out h) 0).trans rfl, (blk_cell (blk_below BKr.out h) 1).trans rfl, (blk_cell (blk_below BKr.out h) 2).trans rfl, (blk_cell (blk_below BKr.out h) 3).trans rfl, (blk_cell (blk_below BKr.out h) 4).trans rfl, (blk_cell (blk_below BKr.out h) 5).trans rfl, cell_on h x0, cell_on h x1, cell_on h x2, cell_on h x3, cell_on h y0, cell_on h y1, cell_on h y2, cell_on h y3⟩)
            go_cut [68] (fun v68 wd => v68 = .bool (decide (pow10 m.f1 ≤ m.f2 * (y.f1 - x.f1))) ∧ Aside0 (Below wr.heap.size wr wd))
            case first =>
              clear HBad HGood
              generalize pow10 m.f1 = p at *
              go_region_held3 (fun W => Below wr.heap.size wr W ∧ W.cell? ⟨w.heap.size, 0, none⟩ = some (.int .i64 m.f0) ∧ W.cell? ⟨w.heap.size, 1, none⟩ = some (.int .i64 m.f1) ∧ W.cell? ⟨w.heap.size, 2, none⟩ = some (.int .i64 m.f2) ∧ W.cell? ⟨w.heap.size, 3, none⟩ = some (.int .i64 m.f3) ∧ W.cell? ⟨w.heap.size, 4, none⟩ = some (.int .i64 m.f4.f0) ∧ W.cell? ⟨w.heap.size, 5, none⟩ = some (.int .i64 m.f4.f1) ∧ W.cell? (ad.add (i * 4)) = some (.int .i64 x.f0) ∧ W.cell? ⟨(ad.add (i * 4)).block, (ad.add (i * 4)).off + 1, none⟩ = some (.int .i64 x.f1) ∧ W.cell? ⟨(ad.add (i * 4)).block, (ad.add (i * 4)).off + 2, none⟩ = some (.int .i64 x.f2) ∧ W.cell? ⟨(ad.add (i * 4)).block, (ad.add (i * 4)).off + 3, none⟩ = some (.int .i64 x.f3) ∧ W.cell? (ad.add ((i + 1) * 4)) = some (.int .i64 y.f0) ∧ W.cell? ⟨(ad.add ((i + 1) * 4)).block, (ad.add ((i + 1) * 4)).off + 1, none⟩ = some (.int .i64 y.f1) ∧ W.cell? ⟨(ad.add ((i + 1) * 4)).block, (ad.add ((i + 1) * 4)).off + 2, none⟩ = some (.int .i64 y.f2) ∧ W.cell? ⟨(ad.add ((i + 1) * 4)).block, (ad.add ((i + 1) * 4)).off + 3, none⟩ = some (.int .i64 y.f3))
                (refine HSC.out _ (by first | exact HW2.out | exact below_drew HW2.out | exact Below.refl _ _ | exact below_drew (Below.refl _ _) | exact pw_below_drewN (Below.refl _ _) _))
                ((go_at_call 34; (with_reducible refine (CP.out _).mono ?_); rintro e w2 ⟨rfl, hb⟩; have HW2 : Aside0 (Below wr.heap.size wr w2) := ⟨by first | exact below_then (below_drew (Below.refl _ _)) (Nat.le_refl _) hb | exact below_then (pw_below_drewN (Below.refl _ _) _) (Nat.le_refl _) hb | exact hb⟩; clear hb))
              all_goals go_wp2
              all_goals go_meet
              case rel => exact ⟨rfl, HW2⟩
            case rest =>
              obtain ⟨rfl, HWq⟩ := hcut
              have HKc := Aside0.mk (below_step HK.out HWq.out)
              clear z0 z1 z2 z3 z4 z5 x0 x1 x2 x3 y0 y1 y2 y3 HSC BKr hw2 hw3
              cases hb : decide (pow10 m.f1 ≤ m.f2 * (y.f1 - x.f1)) with
              | true =>
                have HE1 := Aside0.mk (HBad.out hb)
                clear hb HBad HGood
                go_wp2
                go_ret2
                rw [HE1.out]
                exact ⟨_, rfl, Kd.R_nil _ _ _ _ _, below_step HB.out HKc.out⟩
              | false =>
                have HD' := Aside0.mk (HGood.out hb)
                clear hb HBad HGood
                go_wp2
                go_roundg (c.length - 1 - (i + 1))
                case measure => have := HI.out; have := HLT.out; omega
                case rel => exact ⟨i + 1, by go_num, ⟨by have := HLT.out; omega, rfl⟩, HD', HKc⟩
          · obtain rfl : i = c.length - 1 := by omega
            have HE3 : Aside0 (cleanL m l known = if ((List.range (c.length - 1)).any (flowBad m c)) = true then ([], 30) else (c, 0)) := ⟨by
              rw [HE2.out, if_neg]
              rw [List.any_eq_true]
              rintro ⟨j, hj, h⟩
              rw [HD.out j (List.mem_range.1 hj)] at h
              cases h⟩
            have g1 : decide (((c.length - 1 : Nat) : Int) + 1 < (c.length : Int)) = false := decide_eq_false (by omega)
            clear HE2 HD HI hlt hi
            go_wp2
            clear g1
            go_loopg [11] (c.length - 1) (fun gk v11 w' => ∃ i : Nat, v11 = .int .i64 ((i : Int) + 1) ∧ Aside0 (i ≤ c.length - 1 ∧ gk = c.length - 1 - i) ∧ Aside0 (∀ j : Nat, j < i → flowBad m c j = false) ∧ Aside0 (Below w4.heap.size w4 w'))
            case atStart => exact ⟨0, rfl, ⟨Nat.zero_le _, rfl⟩, ⟨fun j hj => absurd hj (Nat.not_lt_zero j)⟩, HK⟩
            case round =>
              clear HK
              obtain ⟨i, rfl, HI, HD, HK⟩ := hrel
              have hi := HI.out.1
              by_cases hlt : i < c.length - 1
              · obtain ⟨ad, e, x0, x1, x2, x3⟩ := at_T43 HR1.out ((i : Nat) : Int) (by omega) (by omega)
                cases e
                obtain ⟨ad', e, y0, y1, y2, y3⟩ := at_T43 HR1.out ((i + 1 : Nat) : Int) (by omega) (by omega)
                cases e
                simp only [Int.toNat_natCast] at x0 x1 x2 x3 y0 y1 y2 y3
                replace x0 := (HK.out.cell (World.block_lt_of_cell? w4 _ x0)).trans x0
                replace x1 := (HK.out.cell (World.block_lt_of_cell? w4 _ x1)).trans x1
                replace x2 := (HK.out.cell (World.block_lt_of_cell? w4 _ x2)).trans x2
                replace x3 := (HK.out.cell (World.block_lt_of_cell? w4 _ x3)).trans x3
                replace y0 := (HK.out.cell (World.block_lt_of_cell? w4 _ y0)).trans y0
                replace y1 := (HK.out.cell (World.block_lt_of_cell? w4 _ y1)).trans y1
                replace y2 := (HK.out.cell (World.block_lt_of_cell? w4 _ y2)).trans y2
                replace y3 := (HK.out.cell (World.block_lt_of_cell? w4 _ y3)).trans y3
                have HLT := Aside0.mk hlt
                have j1 : ((i : Int) + 1) < (c.length : Int) := by omega
                have j2 : (i : Int) < (c.length : Int) := by omega
                have j3 : (0 : Int) ≤ (i : Int) := by omega
                have j4 : (0 : Int) ≤ (i : Int) + 1 := by omega
                have hti : ((i : Int) + 1).toNat = i + 1 := by omega
                have g1 : decide ((i : Int) + 1 < (c.length : Int)) = true := decide_eq_true j1
                have hw1 : IntKind.i64.wrap ((i : Int) + 1 + 1) = (i : Int) + 1 + 1 := Go.IntWalk.i64_in _ (by omega)
                have hw4 : IntKind.i64.wrap ((i : Int) + 1 - 1) = (i : Int) := by rw [Int.add_sub_cancel]; exact Go.IntWalk.i64_in _ (by omega)
                have hw5 : IntKind.i64.wrap (i : Int) = (i : Int) := Go.IntWalk.i64_in _ (by omega)
                have hxo := readingOk_bounds (HCO.out _ (show rd_T43 c ((i : Nat) : Int) ∈ c by rw [rd43_get (show i < c.length by omega)]; exact List.getElem_mem _))
                have hyo := readingOk_bounds (HCO.out _ (show rd_T43 c ((i + 1 : Nat) : Int) ∈ c by rw [rd43_get (show i + 1 < c.length by omega)]; exact List.getElem_mem _))
                have hgap : Aside0 (gapF m c i = m.f2 * ((rd_T43 c ((i + 1 : Nat) : Int)).f1 - (rd_T43 c (i : Int)).f1)) := ⟨rfl⟩
                have BKr := Aside0.mk (blk_below BK.out HK.out)
                generalize hx : rd_T43 c (i : Int) = x at *
                generalize hy : rd_T43 c ((i + 1 : Nat) : Int) = y at *
                have hxF := Aside0.mk hx
                have hyF : Aside0 (rd_T43 c ((i : Int) + 1) = y) := ⟨hy⟩
                clear hx hy hlt
                have hw2 : IntKind.i64.wrap (y.f1 - x.f1) = y.f1 - x.f1 := Go.IntWalk.i64_in _ (by omega)
                have hmulb : -365240000 ≤ m.f2 * (y.f1 - x.f1) ∧ m.f2 * (y.f1 - x.f1) ≤ 365240000 := mul_bnd hm2 (by omega)
                have hw3 : IntKind.i64.wrap (m.f2 * (y.f1 - x.f1)) = m.f2 * (y.f1 - x.f1) := Go.IntWalk.i64_in _ (by omega)
                clear hxo hyo hmulb
                have hvx := HVal.out _ (show rd_T43 c ((i : Nat) : Int) ∈ c by rw [rd43_get (show i < c.length by have := HLT.out; omega)]; exact List.getElem_mem _)
                have hvy := HVal.out _ (show rd_T43 c ((i + 1 : Nat) : Int) ∈ c by rw [rd43_get (show i + 1 < c.length by have := HLT.out; omega)]; exact List.getElem_mem _)
                rw [hxF.out] at hvx
                rw [show rd_T43 c ((i + 1 : Nat) : Int) = y from hyF.out] at hvy
                have CS := Aside0.mk (qshown_calls m x.f2 y.f2 hd0 hd6 hvx.1 hvx.2 hvy.1 hvy.2)
                have HFB : Aside0 (flowBad m c i = decide (m.f2 * (y.f1 - x.f1) < shownF (pow10 m.f1) x.f2 y.f2)) := ⟨by unfold flowBad; rw [hgap.out, hxF.out, hyF.out]⟩
                clear hvx hvy
                generalize shownF (pow10 m.f1) x.f2 y.f2 = sh at *
                have HBad : Aside0 (decide (m.f2 * (y.f1 - x.f1) < sh) = true → cleanL m l known = ([], 30)) := ⟨fun hb => by
                  rw [HE3.out, if_pos]
                  rw [List.any_eq_true]
                  exact ⟨i, List.mem_range.2 HLT.out, by rw [HFB.out]; exact hb⟩⟩
                have HGood : Aside0 (decide (m.f2 * (y.f1 - x.f1) < sh) = false → ∀ j : Nat, j < i + 1 → flowBad m c j = false) := ⟨fun hb j hj => by
                  rcases Nat.lt_or_ge j i with h | h
                  · exact HD.out j h
                  · obtain rfl : j = i := by omega
                    rw [HFB.out]; exact hb⟩
                clear hgap hxF hyF HFB
                go_upto_region 17 with (fail)
                clear g1
                have z0 : wr.cell? ⟨w.heap.size, 0, none⟩ = some (.int .i64 m.f0) := (blk_cell (BKr.out) 0).trans rfl
                have z1 : wr.cell? ⟨w.heap.size, 1, none⟩ = some (.int .i64 m.f1) := (blk_cell (BKr.out) 1).trans rfl
                have z2 : wr.cell? ⟨w.heap.size, 2, none⟩ = some (.int .i64 m.f2) := (blk_cell (BKr.out) 2).trans rfl
                have z3 : wr.cell? ⟨w.heap.size, 3, none⟩ = some (.int .i64 m.f3) := (blk_cell (BKr.out) 3).trans rfl
                have z4 : wr.cell? ⟨w.heap.size, 4, none⟩ = some (.int .i64 m.f4.f0) := (blk_cell (BKr.out) 4).trans rfl
                have z5 : wr.cell? ⟨w.heap.size, 5, none⟩ = some (.int .i64 m.f4.f1) := (blk_cell (BKr.out) 5).trans rfl
                have HSC := Aside0.mk (fun W (h : Below wr.heap.size wr W) => show Below wr.heap.size wr W ∧ W.cell? ⟨w.heap.size, 0, none⟩ = some (.int .i64 m.f0) ∧ W.cell? ⟨w.heap.size, 1, none⟩ = some (.int .i64 m.f1) ∧ W.cell? ⟨w.heap.size, 2, none⟩ = some (.int .i64 m.f2) ∧ W.cell? ⟨w.heap.size, 3, none⟩ = some (.int .i64 m.f3) ∧ W.cell? ⟨w.heap.size, 4, none⟩ = some (.int .i64 m.f4.f0) ∧ W.cell? ⟨w.heap.size, 5, none⟩ = some (.int .i64 m.f4.f1) ∧ W.cell? (ad.add (i * 4)) = some (.int .i64 x.f0) ∧ W.cell? ⟨(ad.add (i * 4)).block, (ad.add (i * 4)).off + 1, none⟩ = some (.int .i64 x.f1) ∧ W.cell? ⟨(ad.add (i * 4)).block, (ad.add (i * 4)).off + 2, none⟩ = some (.int .i64 x.f2) ∧ W.cell? ⟨(ad.add (i * 4)).block, (ad.add (i * 4)).off + 3, none⟩ = some (.int .i64 x.f3) ∧ W.cell? (ad.add ((i + 1) * 4)) = some (.int .i64 y.f0) ∧ W.cell? ⟨(ad.add ((i + 1) * 4)).block, (ad.add ((i + 1) * 4)).off + 1, none⟩ = some (.int .i64 y.f1) ∧ W.cell? ⟨(ad.add ((i + 1) * 4)).block, (ad.add ((i + 1) * 4)).off + 2, none⟩ = some (.int .i64 y.f2) ∧ W.cell? ⟨(ad.add ((i + 1) * 4)).block, (ad.add ((i + 1) * 4)).off + 3, none⟩ = some (.int .i64 y.f3) from ⟨h, (blk_cell (blk_below BKr.out h) 0).trans rfl, (blk_cell (blk_below BKr.out h) 1).trans rfl, (blk_cell (blk_below BKr.out h) 2).trans rfl, (blk_cell (blk_below BKr.out h) 3).trans rfl, (blk_cell (blk_below BKr.out h) 4).trans rfl, (blk_cell (blk_below BKr.out h) 5).trans rfl, cell_on h x0, cell_on h x1, cell_on h x2, cell_on h x3, cell_on h y0, cell_on h y1, cell_on h y2, cell_on h y3⟩)
                go_cut [103] (fun v103 wd => v103 = .bool (decide (m.f2 * (y.f1 - x.f1) < sh)) ∧ Aside0 (Below wr.heap.size wr wd))
                case first =>
                  clear HBad HGood
                  go_region_held3 (fun W => Below wr.heap.size wr W ∧ W.cell? ⟨w.heap.size, 0, none⟩ = some (.int .i64 m.f0) ∧ W.cell? ⟨w.heap.size, 1, none⟩ = some (.int .i64 m.f1) ∧ W.cell? ⟨w.heap.size, 2, none⟩ = some (.int .i64 m.f2) ∧ W.cell? ⟨w.heap.size, 3, none⟩ = some (.int .i64 m.f3) ∧ W.cell? ⟨w.heap.size, 4, none⟩ = some (.int .i64 m.f4.f0) ∧ W.cell? ⟨w.heap.size, 5, none⟩ = some (.int .i64 m.f4.f1) ∧ W.cell? (ad.add (i * 4)) = some (.int .i64 x.f0) ∧ W.cell? ⟨(ad.add (i * 4)).block, (ad.add (i * 4)).off + 1, none⟩ = some (.int .i64 x.f1) ∧ W.cell? ⟨(ad.add (i * 4)).block, (ad.add (i * 4)).off + 2, none⟩ = some (.int .i64 x.f2) ∧ W.cell? ⟨(ad.add (i * 4)).block, (ad.add (i * 4)).off + 3, none⟩ = some (.int .i64 x.f3) ∧ W.cell? (ad.add ((i + 1) * 4)) = some (.int .i64 y.f0) ∧ W.cell? ⟨(ad.add ((i + 1) * 4)).block, (ad.add ((i + 1) * 4)).off + 1, none⟩ = some (.int .i64 y.f1) ∧ W.cell? ⟨(ad.add ((i + 1) * 4)).block, (ad.add ((i + 1) * 4)).off + 2, none⟩ = some (.int .i64 y.f2) ∧ W.cell? ⟨(ad.add ((i + 1) * 4)).block, (ad.add ((i + 1) * 4)).off + 3, none⟩ = some (.int .i64 y.f3))
                    (refine HSC.out _ (by first | exact HW2.out | exact below_drew HW2.out | exact Below.refl _ _ | exact below_drew (Below.refl _ _) | exact pw_below_drewN (Below.refl _ _) _))
                    ((go_at_call 35; (with_reducible refine (CS.out _).mono ?_); rintro e w2 ⟨rfl, hb⟩; have HW2 : Aside0 (Below wr.heap.size wr w2) := ⟨by first | exact below_then (below_drew (Below.refl _ _)) (Nat.le_refl _) hb | exact below_then (pw_below_drewN (Below.refl _ _) _) (Nat.le_refl _) hb | exact hb⟩; clear hb))
                  all_goals go_wp2
                  all_goals go_meet
                  case rel => exact ⟨rfl, HW2⟩
                case rest =>
                  obtain ⟨rfl, HWq⟩ := hcut
                  have HKc := Aside0.mk (below_step HK.out HWq.out)
                  clear z0 z1 z2 z3 z4 z5 x0 x1 x2 x3 y0 y1 y2 y3 HSC BKr hw2 hw3 CS
                  cases hb : decide (m.f2 * (y.f1 - x.f1) < sh) with
                  | true =>
                    have HE1 := Aside0.mk (HBad.out hb)
                    clear hb HBad HGood
                    go_wp2
                    go_ret2
                    rw [HE1.out]
                    exact ⟨_, rfl, Kd.R_nil _ _ _ _ _, below_step HB.out HKc.out⟩
                  | false =>
                    have HD' := Aside0.mk (HGood.out hb)
                    clear hb HBad HGood
                    go_wp2
                    go_roundg (c.length - 1 - (i + 1))
                    case measure => have := HI.out; have := HLT.out; omega
                    case rel => exact ⟨i + 1, by go_num, ⟨by have := HLT.out; omega, rfl⟩, HD', HKc⟩
              · obtain rfl : i = c.length - 1 := by omega
                have HE4 : Aside0 (cleanL m l known = (c, 0)) := ⟨by
                  rw [HE3.out, if_neg]
                  rw [List.any_eq_true]
                  rintro ⟨j, hj, h⟩
                  rw [HD.out j (List.mem_range.1 hj)] at h
                  cases h⟩
                have g1 : decide (((c.length - 1 : Nat) : Int) + 1 < (c.length : Int)) = false := decide_eq_false (by omega)
                clear HE3 HD HI hlt hi
                go_wp2
                go_ret2
                rw [HE4.out]
                exact ⟨_, rfl, Kd.R_below HRet.out HK.out, below_step HB.out HK.out⟩
  · have HE : Aside0 (cleanL m l known = ([], 1)) := ⟨by rw [cleanL, if_neg hall]⟩
    rw [HE.out]
    clear HE
    by_cases hv : validM m = true
    · have CM := Aside0.mk (qmeter_calls m true hv)
      by_cases hok : readingsL l = true
      · have CR := Aside0.mk (fun W h => rreadings_calls A0 c0 l true hok W h hc0)
        have hkn : inB known 0 36524 = false := by rw [hv, hok] at hall; simpa using hall
        have CD := Aside0.mk (qday_calls known false hkn)
        clear hall hv hok hkn
        go_enter Tryd.func14, Tryd.ntmps14
        go_wp2_with (first
          | (go_at_call 31; (with_reducible refine (CM.out _).mono ?_); rintro e w1 ⟨rfl, hb⟩; replace HB := Aside0.mk (below_step HB.out hb); replace BK := Aside0.mk (blk_below BK.out hb); have z0 : w1.cell? ⟨w.heap.size, 0, none⟩ = some (.int .i64 m.f0) := (blk_cell (BK.out) 0).trans rfl; have z1 : w1.cell? ⟨w.heap.size, 1, none⟩ = some (.int .i64 m.f1) := (blk_cell (BK.out) 1).trans rfl; have z2 : w1.cell? ⟨w.heap.size, 2, none⟩ = some (.int .i64 m.f2) := (blk_cell (BK.out) 2).trans rfl; have z3 : w1.cell? ⟨w.heap.size, 3, none⟩ = some (.int .i64 m.f3) := (blk_cell (BK.out) 3).trans rfl; have z4 : w1.cell? ⟨w.heap.size, 4, none⟩ = some (.int .i64 m.f4.f0) := (blk_cell (BK.out) 4).trans rfl; have z5 : w1.cell? ⟨w.heap.size, 5, none⟩ = some (.int .i64 m.f4.f1) := (blk_cell (BK.out) 5).trans rfl; clear hb)
          | (go_at_call 25; (with_reducible refine (CR.out _ ?s1).mono ?_); (case s1 => exact Kd.C_below HR0.out HB.out); rintro e w2 ⟨rfl, hb⟩; replace HB := Aside0.mk (below_step HB.out hb); replace BK := Aside0.mk (blk_below BK.out hb); have z0 : w2.cell? ⟨w.heap.size, 0, none⟩ = some (.int .i64 m.f0) := (blk_cell (BK.out) 0).trans rfl; have z1 : w2.cell? ⟨w.heap.size, 1, none⟩ = some (.int .i64 m.f1) := (blk_cell (BK.out) 1).trans rfl; have z2 : w2.cell? ⟨w.heap.size, 2, none⟩ = some (.int .i64 m.f2) := (blk_cell (BK.out) 2).trans rfl; have z3 : w2.cell? ⟨w.heap.size, 3, none⟩ = some (.int .i64 m.f3) := (blk_cell (BK.out) 3).trans rfl; have z4 : w2.cell? ⟨w.heap.size, 4, none⟩ = some (.int .i64 m.f4.f0) := (blk_cell (BK.out) 4).trans rfl; have z5 : w2.cell? ⟨w.heap.size, 5, none⟩ = some (.int .i64 m.f4.f1) := (blk_cell (BK.out) 5).trans rfl; clear hb)
          | (go_at_call 32; (with_reducible refine (CD.out _).mono ?_); rintro e w3 ⟨rfl, hb⟩; replace HB := Aside0.mk (below_step HB.out hb); replace BK := Aside0.mk (blk_below BK.out hb); have z0 : w3.cell? ⟨w.heap.size, 0, none⟩ = some (.int .i64 m.f0) := (blk_cell (BK.out) 0).trans rfl; have z1 : w3.cell? ⟨w.heap.size, 1, none⟩ = some (.int .i64 m.f1) := (blk_cell (BK.out) 1).trans rfl; have z2 : w3.cell? ⟨w.heap.size, 2, none⟩ = some (.int .i64 m.f2) := (blk_cell (BK.out) 2).trans rfl; have z3 : w3.cell? ⟨w.heap.size, 3, none⟩ = some (.int .i64 m.f3) := (blk_cell (BK.out) 3).trans rfl; have z4 : w3.cell? ⟨w.heap.size, 4, none⟩ = some (.int .i64 m.f4.f0) := (blk_cell (BK.out) 4).trans rfl; have z5 : w3.cell? ⟨w.heap.size, 5, none⟩ = some (.int .i64 m.f4.f1) := (blk_cell (BK.out) 5).trans rfl; clear hb))
        go_ret2
        exact ⟨_, rfl, Kd.R_nil _ _ _ _ _, HB.out⟩
      · rw [Bool.not_eq_true] at hok
        have CR := Aside0.mk (fun W h => rreadings_calls A0 c0 l false hok W h hc0)
        clear hall hv hok
        go_enter Tryd.func14, Tryd.ntmps14
        go_wp2_with (first
          | (go_at_call 31; (with_reducible refine (CM.out _).mono ?_); rintro e w1 ⟨rfl, hb⟩; replace HB := Aside0.mk (below_step HB.out hb); replace BK := Aside0.mk (blk_below BK.out hb); have z0 : w1.cell? ⟨w.heap.size, 0, none⟩ = some (.int .i64 m.f0) := (blk_cell (BK.out) 0).trans rfl; have z1 : w1.cell? ⟨w.heap.size, 1, none⟩ = some (.int .i64 m.f1) := (blk_cell (BK.out) 1).trans rfl; have z2 : w1.cell? ⟨w.heap.size, 2, none⟩ = some (.int .i64 m.f2) := (blk_cell (BK.out) 2).trans rfl; have z3 : w1.cell? ⟨w.heap.size, 3, none⟩ = some (.int .i64 m.f3) := (blk_cell (BK.out) 3).trans rfl; have z4 : w1.cell? ⟨w.heap.size, 4, none⟩ = some (.int .i64 m.f4.f0) := (blk_cell (BK.out) 4).trans rfl; have z5 : w1.cell? ⟨w.heap.size, 5, none⟩ = some (.int .i64 m.f4.f1) := (blk_cell (BK.out) 5).trans rfl; clear hb)
          | (go_at_call 25; (with_reducible refine (CR.out _ ?s1).mono ?_); (case s1 => exact Kd.C_below HR0.out HB.out); rintro e w2 ⟨rfl, hb⟩; replace HB := Aside0.mk (below_step HB.out hb); replace BK := Aside0.mk (blk_below BK.out hb); have z0 : w2.cell? ⟨w.heap.size, 0, none⟩ = some (.int .i64 m.f0) := (blk_cell (BK.out) 0).trans rfl; have z1 : w2.cell? ⟨w.heap.size, 1, none⟩ = some (.int .i64 m.f1) := (blk_cell (BK.out) 1).trans rfl; have z2 : w2.cell? ⟨w.heap.size, 2, none⟩ = some (.int .i64 m.f2) := (blk_cell (BK.out) 2).trans rfl; have z3 : w2.cell? ⟨w.heap.size, 3, none⟩ = some (.int .i64 m.f3) := (blk_cell (BK.out) 3).trans rfl; have z4 : w2.cell? ⟨w.heap.size, 4, none⟩ = some (.int .i64 m.f4.f0) := (blk_cell (BK.out) 4).trans rfl; have z5 : w2.cell? ⟨w.heap.size, 5, none⟩ = some (.int .i64 m.f4.f1) := (blk_cell (BK.out) 5).trans rfl; clear hb))
        go_ret2
        exact ⟨_, rfl, Kd.R_nil _ _ _ _ _, HB.out⟩
    · rw [Bool.not_eq_true] at hv
      have CM := Aside0.mk (qmeter_calls m false hv)
      clear hall hv
      go_enter Tryd.func14, Tryd.ntmps14
      go_wp2_with (first
        | (go_at_call 31; (with_reducible refine (CM.out _).mono ?_); rintro e w1 ⟨rfl, hb⟩; replace HB := Aside0.mk (below_step HB.out hb); replace BK := Aside0.mk (blk_below BK.out hb); have z0 : w1.cell? ⟨w.heap.size, 0, none⟩ = some (.int .i64 m.f0) := (blk_cell (BK.out) 0).trans rfl; have z1 : w1.cell? ⟨w.heap.size, 1, none⟩ = some (.int .i64 m.f1) := (blk_cell (BK.out) 1).trans rfl; have z2 : w1.cell? ⟨w.heap.size, 2, none⟩ = some (.int .i64 m.f2) := (blk_cell (BK.out) 2).trans rfl; have z3 : w1.cell? ⟨w.heap.size, 3, none⟩ = some (.int .i64 m.f3) := (blk_cell (BK.out) 3).trans rfl; have z4 : w1.cell? ⟨w.heap.size, 4, none⟩ = some (.int .i64 m.f4.f0) := (blk_cell (BK.out) 4).trans rfl; have z5 : w1.cell? ⟨w.heap.size, 5, none⟩ = some (.int .i64 m.f4.f1) := (blk_cell (BK.out) 5).trans rfl; clear hb))
      go_ret2
      exact ⟨_, rfl, Kd.R_nil _ _ _ _ _, HB.out⟩
end Go.Proofs.YtknfkibnocfjiaaDoor.P
