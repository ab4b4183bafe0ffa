/- The contract of meter.Clean. -/
import Derived.Test.YtknfkibnocfjiaaDoorGCleanSpec
import Derived.Deep.RegionHeld3
import Derived.Deep.QuietTactic
import Derived.BigQuiet
namespace Go.Proofs.YtknfkibnocfjiaaDoor.P
open Go.RowKit Go.Proofs.YtknfkibnocfjiaaDoorW.PrintWords Go.Proofs.YtknfkibnocfjiaaDoorW.PrintLast Go.Proofs.YtknfkibnocfjiaaDoorW.PrintMore Go.Proofs.YtknfkibnocfjiaaDoor.M
set_option linter.unusedVariables false
set_option linter.unusedSimpArgs false

theorem all43_any {l : List S43} {p : S43 → Bool} (h : ∀ j : Nat, j < l.length → p (rd_T43 l (j : Int)) = false) : l.any p = false := by
  rw [List.any_eq_false]
  intro x hx
  obtain ⟨j, hj, rfl⟩ := List.getElem_of_mem hx
  rw [← rd43_get hj, h j hj]; decide
theorem cell_on {w W : World} (hb : Below w.heap.size w W) {p : Addr} {v : Value} (h : w.cell? p = some v) : W.cell? p = some v := (hb.cell (World.block_lt_of_cell? w _ h)).trans h
theorem any_range_succ (p : Nat → Bool) (i : Nat) : (List.range (i + 1)).any p = ((List.range i).any p || p i) := by
  rw [List.range_succ, List.any_append]; simp
def RowPost43 (w : World) (r : List S43 × Int) (e : Ending) (w' : World) : Prop :=
  ∃ v0_ : Value, e = .returned (.tuple #[v0_, .int .i64 r.2]) ∧ Kd.R k43 43 w' w.heap.size (fun _ => True) v0_ r.1 ∧ Below w.heap.size w w'

attribute [local go_sem] max2_int min2_int max_two min_two max_three min_three max_four min_four
set_option maxHeartbeats 16000000 in
set_option maxRecDepth 100000 in
theorem meter_Clean_calls (m : S25) (A0 : Option Addr) (c0 : Nat) (l0 : List S43) (known : Int) (w : World) (hr0 : Kd.C k43 w A0 l0.length l0) (hc0 : l0.length ≤ c0) (hg : Gl w) :
    Calls Tryd.prog 13 #[.agg #[.int .i64 m.f0, .int .i64 m.f1, .int .i64 m.f2, .int .i64 m.f3, .int .i64 m.f4.f0, .int .i64 m.f4.f1], .slice A0 l0.length c0, .int .i64 known] w (RowPost43 w (cleanL m l0 known)) := by
  have hu43 := Tryd.underlying43
  have hu25 := Tryd.underlying25
  have HR0 := Aside0.mk hr0
  have HC0 := Aside0.mk hc0
  have HGl := Aside0.mk hg
  have HB := Aside0.mk (below_alloc (Below.refl w.heap.size w) (.cells #[.int .i64 m.f0, .int .i64 m.f1, .int .i64 m.f2, .int .i64 m.f3, .int .i64 m.f4.f0, .int .i64 m.f4.f1] 25))
  have BK := Aside0.mk (blk_new w (.cells #[.int .i64 m.f0, .int .i64 m.f1, .int .i64 m.f2, .int .i64 m.f3, .int .i64 m.f4.f0, .int .i64 m.f4.f1] 25))
  have HV := Aside0.mk (valid_f m)
  have HRd : Aside0 (meter_readings.f l0 = some (readingsL l0)) := ⟨rfl⟩
  have HW := Aside0.mk (within_f known 0 36524)
  clear hr0 hc0 hg
  by_cases hall : (validM m && readingsL l0 && inB known 0 36524) = true
  · have hv : validM m = true := by simp only [Bool.and_eq_true] at hall; exact hall.1.1
    have hok : readingsL l0 = true := by simp only [Bool.and_eq_true] at hall; exact hall.1.2
    have hkn : inB known 0 36524 = true := by simp only [Bool.and_eq_true] at hall; exact hall.2
    have HE : Aside0 (cleanL m l0 known = if ((colL m known l0).any fun r => decide (pow10 m.f1 ≤ r.f2)) = true then ([], 1)
      else if ((List.range ((colL m known l0).length - 1)).any (rangeBad m (colL m known l0))) = true then ([], 3)
      else if ((List.range ((colL m known l0).length - 1)).any (flowBad m (colL m known l0))) = true then ([], 30)
      else (colL m known l0, 0)) := ⟨by rw [cleanL, if_pos hall]⟩
    rw [hv] at HV
    rw [hok] at HRd
    rw [hkn] at HW
    have HOK := Aside0.mk hok
    obtain ⟨hm0, hm1, hm2, hm3, hm4, hm5, hm6⟩ := validM_bounds hv
    have HCO : Aside0 (∀ x ∈ colL m known l0, readingOk x = true) := ⟨fun x hx => by
      have h := mem_colL hx
      unfold readingsL at hok
      simp only [Bool.and_eq_true, decide_eq_true_eq, List.all_eq_true] at hok
      exact hok.2 x h.1⟩
    have hcl : (colL m known l0).length ≤ 1000 := by
      have h := len_colL m known l0
      unfold readingsL at hok
      simp only [Bool.and_eq_true, decide_eq_true_eq] at hok
      omega
    have hpb := pow10_bound (show 0 ≤ m.f1 by omega) hm1.2
    clear hall hv hok hkn
    go_enter Tryd.func13, Tryd.ntmps13
    go_upto_region 4 with (first
      | (go_at_call 26; (with_reducible refine (meter_valid.calls m.f0 m.f1 m.f2 m.f3 m.f4.f0 m.f4.f1 true _ HV.out).mono ?_); rintro e w1 ⟨rfl, hb⟩; replace HB := Aside0.mk (below_step HB.out hb); replace BK := Aside0.mk (blk_below BK.out hb); have z0 : w1.cell? ⟨w.heap.size, 0, none⟩ = some (.int .i64 m.f0) := (blk_cell BK.out 0).trans rfl; have z1 : w1.cell? ⟨w.heap.size, 1, none⟩ = some (.int .i64 m.f1) := (blk_cell BK.out 1).trans rfl; have z2 : w1.cell? ⟨w.heap.size, 2, none⟩ = some (.int .i64 m.f2) := (blk_cell BK.out 2).trans rfl; have z3 : w1.cell? ⟨w.heap.size, 3, none⟩ = some (.int .i64 m.f3) := (blk_cell BK.out 3).trans rfl; have z4 : w1.cell? ⟨w.heap.size, 4, none⟩ = some (.int .i64 m.f4.f0) := (blk_cell BK.out 4).trans rfl; have z5 : w1.cell? ⟨w.heap.size, 5, none⟩ = some (.int .i64 m.f4.f1) := (blk_cell BK.out 5).trans rfl; clear hb)
      | (go_at_call 27; (with_reducible refine (meter_readings.calls A0 c0 l0 true _ ?s1 HC0.out HRd.out).mono ?_); (case s1 => exact Kd.C_below HR0.out HB.out); rintro e w2 ⟨rfl, hb⟩; replace HB := Aside0.mk (below_step HB.out hb); replace BK := Aside0.mk (blk_below BK.out hb); have z0 : w2.cell? ⟨w.heap.size, 0, none⟩ = some (.int .i64 m.f0) := (blk_cell BK.out 0).trans rfl; have z1 : w2.cell? ⟨w.heap.size, 1, none⟩ = some (.int .i64 m.f1) := (blk_cell BK.out 1).trans rfl; have z2 : w2.cell? ⟨w.heap.size, 2, none⟩ = some (.int .i64 m.f2) := (blk_cell BK.out 2).trans rfl; have z3 : w2.cell? ⟨w.heap.size, 3, none⟩ = some (.int .i64 m.f3) := (blk_cell BK.out 3).trans rfl; have z4 : w2.cell? ⟨w.heap.size, 4, none⟩ = some (.int .i64 m.f4.f0) := (blk_cell BK.out 4).trans rfl; have z5 : w2.cell? ⟨w.heap.size, 5, none⟩ = some (.int .i64 m.f4.f1) := (blk_cell BK.out 5).trans rfl; clear hb)
      | (go_at_call 28; (with_reducible refine (meter_within.calls known 0 36524 true _ HW.out).mono ?_); rintro e w3 ⟨rfl, hd⟩; have hb := hd.below; replace HB := Aside0.mk (below_step HB.out hb); replace BK := Aside0.mk (blk_below BK.out hb); have z0 : w3.cell? ⟨w.heap.size, 0, none⟩ = some (.int .i64 m.f0) := (blk_cell BK.out 0).trans rfl; have z1 : w3.cell? ⟨w.heap.size, 1, none⟩ = some (.int .i64 m.f1) := (blk_cell BK.out 1).trans rfl; have z2 : w3.cell? ⟨w.heap.size, 2, none⟩ = some (.int .i64 m.f2) := (blk_cell BK.out 2).trans rfl; have z3 : w3.cell? ⟨w.heap.size, 3, none⟩ = some (.int .i64 m.f3) := (blk_cell BK.out 3).trans rfl; have z4 : w3.cell? ⟨w.heap.size, 4, none⟩ = some (.int .i64 m.f4.f0) := (blk_cell BK.out 4).trans rfl; have z5 : w3.cell? ⟨w.heap.size, 5, none⟩ = some (.int .i64 m.f4.f1) := (blk_cell BK.out 5).trans rfl; clear hb hd)
      | (go_at_call 29; (with_reducible refine (meter_collect_calls m A0 c0 l0 known _ ?s1 HC0.out HOK.out).mono ?_); (case s1 => exact Kd.C_below HR0.out HB.out); rintro e w4 ⟨v, rfl, hR, hb⟩; obtain ⟨A1, c1, rfl, hl1, hc1⟩ := Kd.R_reads hR; have HRet := Aside0.mk (Kd.R_lower hR HB.out.size); have HR1 := Aside0.mk hc1; have HL1 := Aside0.mk hl1; replace HB := Aside0.mk (below_step HB.out hb); replace BK := Aside0.mk (blk_below BK.out hb); have z0 : w4.cell? ⟨w.heap.size, 0, none⟩ = some (.int .i64 m.f0) := (blk_cell BK.out 0).trans rfl; have z1 : w4.cell? ⟨w.heap.size, 1, none⟩ = some (.int .i64 m.f1) := (blk_cell BK.out 1).trans rfl; have z2 : w4.cell? ⟨w.heap.size, 2, none⟩ = some (.int .i64 m.f2) := (blk_cell BK.out 2).trans rfl; have z3 : w4.cell? ⟨w.heap.size, 3, none⟩ = some (.int .i64 m.f3) := (blk_cell BK.out 3).trans rfl; have z4 : w4.cell? ⟨w.heap.size, 4, none⟩ = some (.int .i64 m.f4.f0) := (blk_cell BK.out 4).trans rfl; have z5 : w4.cell? ⟨w.heap.size, 5, none⟩ = some (.int .i64 m.f4.f1) := (blk_cell BK.out 5).trans rfl; clear hR hl1 hc1 hb))
    have HG4 : Aside0 (Gl w4) := ⟨HGl.out.below HB.out⟩
    clear HGl HV HRd HW HOK HR0 HC0
    generalize hcc : colL m known l0 = c at *
    clear hcc z0 z1 z2 z3 z4 z5
    go_wp2
    go_loopg [33] c.length (fun gk v33 w' => ∃ i : Nat, v33 = .int .i64 i ∧ Aside0 (i ≤ c.length ∧ gk = c.length - i) ∧ Aside0 (∀ j : Nat, j < i → decide (pow10 m.f1 ≤ (rd_T43 c (j : Int)).f2) = false) ∧ Aside0 (Below w4.heap.size w4 w'))
    case atStart => exact ⟨0, rfl, ⟨Nat.zero_le _, rfl⟩, ⟨fun j hj => absurd hj (Nat.not_lt_zero j)⟩, ⟨Below.refl _ _⟩⟩
    case round =>
      obtain ⟨i, rfl, HI, HD, HK⟩ := hrel
      have hi := HI.out.1
      by_cases hlt : i < c.length
      · obtain ⟨ad, e, x0, x1, x2, x3⟩ := at_T43 HR1.out (i : Int) (by omega) (by omega)
        cases e
        simp only [Int.toNat_natCast] at x0 x1 x2 x3
        replace x0 := (HK.out.cell (World.block_lt_of_cell? w4 _ x0)).trans x0
        replace x1 := (HK.out.cell (World.block_lt_of_cell? w4 _ x1)).trans x1
        replace x2 := (HK.out.cell (World.block_lt_of_cell? w4 _ x2)).trans x2
        replace x3 := (HK.out.cell (World.block_lt_of_cell? w4 _ x3)).trans x3
        by_cases hb : pow10 m.f1 ≤ (rd_T43 c (i : Int)).f2
        · have e1 : decide (pow10 m.f1 ≤ (rd_T43 c (i : Int)).f2) = true := decide_eq_true hb
          have HE1 : Aside0 (cleanL m l0 known = ([], 1)) := ⟨by
            rw [HE.out, if_pos]
            rw [List.any_eq_true]
            exact ⟨c[i], List.getElem_mem hlt, by rw [← rd43_get hlt]; exact e1⟩⟩
          rw [HE1.out]
          clear HE HE1 hb
          generalize hx : rd_T43 c (i : Int) = x at *
          clear hx
          have BKr := blk_below BK.out HK.out
          have y1 : (wr.alloc (.cells #[.int .i64 x.f0, .int .i64 x.f1, .int .i64 x.f2, .int .i64 x.f3] 43)).cell? ⟨w.heap.size, 1, none⟩ = some (.int .i64 m.f1) := (blk_cell (blk_alloc BKr _) 1).trans rfl
          have y2 : (wr.alloc (.cells #[.int .i64 x.f0, .int .i64 x.f1, .int .i64 x.f2, .int .i64 x.f3] 43)).cell? ⟨wr.heap.size, 2, none⟩ = some (.int .i64 x.f2) := (blk_cell (blk_new wr _) 2).trans rfl
          have y3 : (wr.alloc (.cells #[.int .i64 x.f0, .int .i64 x.f1, .int .i64 x.f2, .int .i64 x.f3] 43)).cell? ⟨0, m.f1.toNat, none⟩ = some (.int .i64 (pow10 m.f1)) := ((HG4.out.below HK.out).alloc _).at_ (by omega) (by omega)
          have HKa := Aside0.mk (below_alloc HK.out (.cells #[.int .i64 x.f0, .int .i64 x.f1, .int .i64 x.f2, .int .i64 x.f3] 43))
          clear BKr
          go_wp2
          clear x0 x1 x2 x3
          generalize (wr.alloc (.cells #[.int .i64 x.f0, .int .i64 x.f1, .int .i64 x.f2, .int .i64 x.f3] 43)) = wx at *
          generalize wr.heap.size = g at *
          generalize pow10 m.f1 = p at *
          go_quiet (fail)
          all_goals go_wp2
          all_goals go_ret2
          all_goals exact ⟨_, rfl, Kd.R_nil _ _ _ _ _, below_step HB.out (by repeat (first | exact HKa.out | apply below_drew | apply pw_below_drewN))⟩
        · have e1 : decide (pow10 m.f1 ≤ (rd_T43 c (i : Int)).f2) = false := decide_eq_false hb
          have HD' : Aside0 (∀ j : Nat, j < i + 1 → decide (pow10 m.f1 ≤ (rd_T43 c (j : Int)).f2) = false) := ⟨fun j hj => by
            rcases Nat.lt_or_ge j i with h | h
            · exact HD.out j h
            · obtain rfl : j = i := by omega
              exact e1⟩
          clear hb
          generalize hx : rd_T43 c (i : Int) = x at *
          clear hx
          have BKr := blk_below BK.out HK.out
          have y1 : (wr.alloc (.cells #[.int .i64 x.f0, .int .i64 x.f1, .int .i64 x.f2, .int .i64 x.f3] 43)).cell? ⟨w.heap.size, 1, none⟩ = some (.int .i64 m.f1) := (blk_cell (blk_alloc BKr _) 1).trans rfl
          have y2 : (wr.alloc (.cells #[.int .i64 x.f0, .int .i64 x.f1, .int .i64 x.f2, .int .i64 x.f3] 43)).cell? ⟨wr.heap.size, 2, none⟩ = some (.int .i64 x.f2) := (blk_cell (blk_new wr _) 2).trans rfl
          have y3 : (wr.alloc (.cells #[.int .i64 x.f0, .int .i64 x.f1, .int .i64 x.f2, .int .i64 x.f3] 43)).cell? ⟨0, m.f1.toNat, none⟩ = some (.int .i64 (pow10 m.f1)) := ((HG4.out.below HK.out).alloc _).at_ (by omega) (by omega)
          have HKa := Aside0.mk (below_alloc HK.out (.cells #[.int .i64 x.f0, .int .i64 x.f1, .int .i64 x.f2, .int .i64 x.f3] 43))
          clear BKr
          go_wp2
          clear x0 x1 x2 x3
          generalize (wr.alloc (.cells #[.int .i64 x.f0, .int .i64 x.f1, .int .i64 x.f2, .int .i64 x.f3] 43)) = wx at *
          generalize wr.heap.size = g at *
          generalize pow10 m.f1 = p at *
          go_quiet (fail)
          all_goals go_wp2
          all_goals go_roundg (c.length - (i + 1))
          case measure => have := HI.out; omega
          case rel => exact ⟨i + 1, by go_num, ⟨by omega, rfl⟩, HD', ⟨by repeat (first | exact HKa.out | apply below_drew | apply pw_below_drewN)⟩⟩
      · obtain rfl : i = c.length := by omega
        have HE2 : Aside0 (cleanL m l0 known = if ((List.range (c.length - 1)).any (rangeBad m c)) = true then ([], 3) else if ((List.range (c.length - 1)).any (flowBad m c)) = true then ([], 30) else (c, 0)) := ⟨by
          rw [HE.out, if_neg]
          rw [all43_any HD.out]; decide⟩
        clear HE HD HI hlt hi
        by_cases hz : 2 ≤ c.length
        · have hgt : (0 : Int) < (c.length : Int) - 1 := by omega
          have hgt' : ((0 : Int) < (c.length : Int) - 1) = True := eq_true hgt
          go_wp2
          have hN1 : ((c.length - 1 : Nat) : Int) = (c.length : Int) - 1 := by omega
          have HN1 := Aside0.mk hN1
          clear hN1 hgt hgt'
          go_loopg [11, 49] (c.length - 1) (fun gk v11 v49 w' => ∃ i : Nat, v49 = .int .i64 i ∧ v11 = .int .i64 (if (List.range i).any (flowBad m c) = true then 30 else 0) ∧ Aside0 (i ≤ c.length - 1 ∧ gk = c.length - 1 - i) ∧ Aside0 (∀ j : Nat, j < i → rangeBad m c j = false) ∧ Aside0 (Below w4.heap.size w4 w'))
          case atStart => exact ⟨0, rfl, rfl, ⟨Nat.zero_le _, rfl⟩, ⟨fun j hj => absurd hj (Nat.not_lt_zero j)⟩, HK⟩
          case round =>
            clear HK
            obtain ⟨i, rfl, rfl, HI, HD2, HK⟩ := hrel
            have hi := HI.out.1
            by_cases hlt2 : i < c.length - 1
            · obtain ⟨xad, e, x0, x1, x2, x3⟩ := at_T43 HR1.out ((i : Nat) : Int) (by omega) (by omega)
              cases e
              simp only [Int.toNat_natCast] at x0 x1 x2 x3
              replace x0 := (HK.out.cell (World.block_lt_of_cell? w4 _ x0)).trans x0
              replace x1 := (HK.out.cell (World.block_lt_of_cell? w4 _ x1)).trans x1
              replace x2 := (HK.out.cell (World.block_lt_of_cell? w4 _ x2)).trans x2
              replace x3 := (HK.out.cell (World.block_lt_of_cell? w4 _ x3)).trans x3
              obtain ⟨yad, e, y0, y1, y2, y3⟩ := at_T43 HR1.out ((i + 1 : Nat) : Int) (by omega) (by omega)
              cases e
              simp only [Int.toNat_natCast] at y0 y1 y2 y3
              replace y0 := (HK.out.cell (World.block_lt_of_cell? w4 _ y0)).trans y0
              replace y1 := (HK.out.cell (World.block_lt_of_cell? w4 _ y1)).trans y1
              replace y2 := (HK.out.cell (World.block_lt_of_cell? w4 _ y2)).trans y2
              replace y3 := (HK.out.cell (World.block_lt_of_cell? w4 _ y3)).trans y3
              generalize hev : (if (List.range i).any (flowBad m c) = true then (30 : Int) else 0) = ev
              have HEV := Aside0.mk hev
              clear hev
              have hlt3 : (i : Int) < (c.length : Int) - 1 := by omega
              have hlt4 : ((i : Int) + 1) < (c.length : Int) := by omega
              have hlt5 : (i : Int) < (c.length : Int) := by omega
              have hlt6 : (0 : Int) ≤ (i : Int) := by omega
              have hlt7 : (0 : Int) ≤ (i : Int) + 1 := by omega
              have hxo := readingOk_bounds (HCO.out _ (show rd_T43 c ((i : Nat) : Int) ∈ c by rw [rd43_get (show i < c.length by omega)]; exact List.getElem_mem _))
              have hyo := readingOk_bounds (HCO.out _ (show rd_T43 c ((i + 1 : Nat) : Int) ∈ c by rw [rd43_get (show i + 1 < c.length by omega)]; exact List.getElem_mem _))
              have hgap : Aside0 (gapF m c i = m.f2 * ((rd_T43 c ((i + 1 : Nat) : Int)).f1 - (rd_T43 c (i : Int)).f1)) := ⟨rfl⟩
              generalize hx : rd_T43 c (i : Int) = x at *
              generalize hy : rd_T43 c ((i + 1 : Nat) : Int) = y at *
              have hxF := Aside0.mk hx
              have hyF : Aside0 (rd_T43 c ((i : Int) + 1) = y) := ⟨hy⟩
              clear hx hy
              have hw1 : IntKind.i64.wrap ((i : Int) + 1) = (i : Int) + 1 := Go.IntWalk.i64_in _ (by omega)
              have hti : ((i : Int) + 1).toNat = i + 1 := by omega
              have hw2 : IntKind.i64.wrap (y.f1 - x.f1) = y.f1 - x.f1 := Go.IntWalk.i64_in _ (by omega)
              have hmulb : -365240000 ≤ m.f2 * (y.f1 - x.f1) ∧ m.f2 * (y.f1 - x.f1) ≤ 365240000 := by
                have h1 : -36524 ≤ y.f1 - x.f1 ∧ y.f1 - x.f1 ≤ 36524 := by omega
                constructor
                · have h2 : m.f2 * (-36524) ≤ m.f2 * (y.f1 - x.f1) := Int.mul_le_mul_of_nonneg_left h1.1 (by omega)
                  omega
                · have h2 : m.f2 * (y.f1 - x.f1) ≤ m.f2 * 36524 := Int.mul_le_mul_of_nonneg_left h1.2 (by omega)
                  omega
              have hw3 : IntKind.i64.wrap (m.f2 * (y.f1 - x.f1)) = m.f2 * (y.f1 - x.f1) := Go.IntWalk.i64_in _ (by omega)
              have BKr := blk_below BK.out HK.out
              have q0 : wr.cell? ⟨w.heap.size, 0, none⟩ = some (.int .i64 m.f0) := (blk_cell BKr 0).trans rfl
              have q1 : wr.cell? ⟨w.heap.size, 1, none⟩ = some (.int .i64 m.f1) := (blk_cell BKr 1).trans rfl
              have q2 : wr.cell? ⟨w.heap.size, 2, none⟩ = some (.int .i64 m.f2) := (blk_cell BKr 2).trans rfl
              have q4 : wr.cell? ⟨w.heap.size, 3, none⟩ = some (.int .i64 m.f3) := (blk_cell BKr 3).trans rfl
              have q5 : wr.cell? ⟨w.heap.size, 4, none⟩ = some (.int .i64 m.f4.f0) := (blk_cell BKr 4).trans rfl
              have q6 : wr.cell? ⟨w.heap.size, 5, none⟩ = some (.int .i64 m.f4.f1) := (blk_cell BKr 5).trans rfl
              have q3 : wr.cell? ⟨0, m.f1.toNat, none⟩ = some (.int .i64 (pow10 m.f1)) := (HG4.out.below HK.out).at_ (by omega) (by omega)
              have HGr := Aside0.mk (HG4.out.below HK.out)
              have HS := Aside0.mk (fun W (hb : Below wr.heap.size wr W) => show Below wr.heap.size wr W ∧ (W.cell? ⟨w.heap.size, 0, none⟩ = some (.int .i64 m.f0) ∧ W.cell? ⟨w.heap.size, 1, none⟩ = some (.int .i64 m.f1) ∧ W.cell? ⟨w.heap.size, 2, none⟩ = some (.int .i64 m.f2) ∧ W.cell? ⟨w.heap.size, 3, none⟩ = some (.int .i64 m.f3) ∧ W.cell? ⟨w.heap.size, 4, none⟩ = some (.int .i64 m.f4.f0) ∧ W.cell? ⟨w.heap.size, 5, none⟩ = some (.int .i64 m.f4.f1)) ∧
                (W.cell? (xad.add (i * 4)) = some (.int .i64 x.f0) ∧ W.cell? ⟨(xad.add (i * 4)).block, (xad.add (i * 4)).off + 1, none⟩ = some (.int .i64 x.f1) ∧ W.cell? ⟨(xad.add (i * 4)).block, (xad.add (i * 4)).off + 2, none⟩ = some (.int .i64 x.f2) ∧ W.cell? ⟨(xad.add (i * 4)).block, (xad.add (i * 4)).off + 3, none⟩ = some (.int .i64 x.f3)) ∧
                (W.cell? (xad.add ((i + 1) * 4)) = some (.int .i64 y.f0) ∧ W.cell? ⟨(xad.add ((i + 1) * 4)).block, (xad.add ((i + 1) * 4)).off + 1, none⟩ = some (.int .i64 y.f1) ∧ W.cell? ⟨(xad.add ((i + 1) * 4)).block, (xad.add ((i + 1) * 4)).off + 2, none⟩ = some (.int .i64 y.f2) ∧ W.cell? ⟨(xad.add ((i + 1) * 4)).block, (xad.add ((i + 1) * 4)).off + 3, none⟩ = some (.int .i64 y.f3)) from
                ⟨hb, ⟨cell_on hb q0, cell_on hb q1, cell_on hb q2, cell_on hb q4, cell_on hb q5, cell_on hb q6⟩, ⟨cell_on hb x0, cell_on hb x1, cell_on hb x2, cell_on hb x3⟩, cell_on hb y0, cell_on hb y1, cell_on hb y2, cell_on hb y3⟩)
              clear BKr q0 q4 q5 q6
              go_wp2
              go_quiet (fail)
              have hgp0 := hgap.out
              clear hw3
              generalize m.f2 * (y.f1 - x.f1) = gp at *
              clear hgap
              by_cases hrb : pow10 m.f1 ≤ gp
              · have e1 : decide (pow10 m.f1 ≤ gp) = true := decide_eq_true hrb
                have HE3 : Aside0 (cleanL m l0 known = ([], 3)) := ⟨by
                  rw [HE2.out, if_pos]
                  rw [List.any_eq_true]
                  exact ⟨i, List.mem_range.2 hlt2, by unfold rangeBad; rw [hgp0]; exact e1⟩⟩
                clear HE2 hgp0 HS HD2 HEV hti hw1 hw2 hrb
                go_wp2
                go_ret2
                rw [HE3.out]
                exact ⟨_, rfl, Kd.R_nil _ _ _ _ _, below_step HB.out (by repeat (first | exact HK.out | apply below_drew | apply pw_below_drewN))⟩
              · have e1 : decide (pow10 m.f1 ≤ gp) = false := decide_eq_false hrb
                have HD3 : Aside0 (∀ j : Nat, j < i + 1 → rangeBad m c j = false) := ⟨fun j hj => by
                  rcases Nat.lt_or_ge j i with h | h
                  · exact HD2.out j h
                  · obtain rfl : j = i := by omega
                    unfold rangeBad; rw [hgp0]; exact e1⟩
                have HFB : Aside0 (flowBad m c i = decide (gp < shownF (pow10 m.f1) x.f2 y.f2)) := ⟨by unfold flowBad; rw [hgp0, hxF.out, hyF.out]⟩
                have hm1' : 0 ≤ m.f1 ∧ m.f1 ≤ 6 := by omega
                clear hrb HD2 hgp0 hxF hyF
                have HC30 := Aside0.mk (fun W hg => meter_shown_calls m x y W hg hm1' hxo.2.2.2 hyo.2.2.2)
                clear hm1'
                generalize shownF (pow10 m.f1) x.f2 y.f2 = sh at *
                go_wp2
                clear x0 x1 x2 x3 y0 y1 y2 y3 q1 q2 q3
                go_region_held3 (fun w' => Below wr.heap.size wr w' ∧ (w'.cell? ⟨w.heap.size, 0, none⟩ = some (.int .i64 m.f0) ∧ w'.cell? ⟨w.heap.size, 1, none⟩ = some (.int .i64 m.f1) ∧ w'.cell? ⟨w.heap.size, 2, none⟩ = some (.int .i64 m.f2) ∧ w'.cell? ⟨w.heap.size, 3, none⟩ = some (.int .i64 m.f3) ∧ w'.cell? ⟨w.heap.size, 4, none⟩ = some (.int .i64 m.f4.f0) ∧ w'.cell? ⟨w.heap.size, 5, none⟩ = some (.int .i64 m.f4.f1)) ∧
                    (w'.cell? (xad.add (i * 4)) = some (.int .i64 x.f0) ∧ w'.cell? ⟨(xad.add (i * 4)).block, (xad.add (i * 4)).off + 1, none⟩ = some (.int .i64 x.f1) ∧ w'.cell? ⟨(xad.add (i * 4)).block, (xad.add (i * 4)).off + 2, none⟩ = some (.int .i64 x.f2) ∧ w'.cell? ⟨(xad.add (i * 4)).block, (xad.add (i * 4)).off + 3, none⟩ = some (.int .i64 x.f3)) ∧
                    (w'.cell? (xad.add ((i + 1) * 4)) = some (.int .i64 y.f0) ∧ w'.cell? ⟨(xad.add ((i + 1) * 4)).block, (xad.add ((i + 1) * 4)).off + 1, none⟩ = some (.int .i64 y.f1) ∧ w'.cell? ⟨(xad.add ((i + 1) * 4)).block, (xad.add ((i + 1) * 4)).off + 2, none⟩ = some (.int .i64 y.f2) ∧ w'.cell? ⟨(xad.add ((i + 1) * 4)).block, (xad.add ((i + 1) * 4)).off + 3, none⟩ = some (.int .i64 y.f3)))
                  (refine HS.out _ (by repeat (first | exact hB5.out | exact Below.refl _ _ | apply below_drew | apply pw_below_drewN)))
                  (first
                    | (go_at_call 30; go_split_ands; (with_reducible refine (HC30.out _ (HGr.out.below ?_)).mono ?_); (assumption); (rintro e w5 ⟨rfl, hb⟩; have hB5 : Aside0 (Below wr.heap.size wr w5) := ⟨below_step (by assumption) hb⟩; clear hb)))
                have HK5 : Aside0 (Below w4.heap.size w4 w5) := ⟨below_step HK.out hB5.out⟩
                by_cases hfb : gp < sh
                · have e2 : decide (gp < sh) = true := decide_eq_true hfb
                  have HN : Aside0 ((if (List.range (i + 1)).any (flowBad m c) = true then (30 : Int) else 0) = 30) := ⟨by
                    rw [any_range_succ, HFB.out, e2, Bool.or_true]; rfl⟩
                  clear HEV HFB HS HC30
                  go_wp2
                  go_roundg (c.length - 1 - (i + 1))
                  case measure => have := HI.out; omega
                  case rel => exact ⟨i + 1, by go_num, by rw [HN.out], ⟨by omega, rfl⟩, HD3, HK5⟩
                · have e2 : decide (gp < sh) = false := decide_eq_false hfb
                  have HN : Aside0 ((if (List.range (i + 1)).any (flowBad m c) = true then (30 : Int) else 0) = ev) := ⟨by
                    rw [any_range_succ, HFB.out, e2, Bool.or_false]; exact HEV.out⟩
                  clear HEV HFB HS HC30
                  go_wp2
                  go_roundg (c.length - 1 - (i + 1))
                  case measure => have := HI.out; omega
                  case rel => exact ⟨i + 1, by go_num, by rw [HN.out], ⟨by omega, rfl⟩, HD3, HK5⟩
            · obtain rfl : i = c.length - 1 := by omega
              have hnr : (List.range (c.length - 1)).any (rangeBad m c) = false := by
                rw [List.any_eq_false]
                intro j hj
                rw [HD2.out j (List.mem_range.1 hj)]; decide
              by_cases hfl : (List.range (c.length - 1)).any (flowBad m c) = true
              · have HE3 : Aside0 (cleanL m l0 known = ([], 30)) := ⟨by rw [HE2.out, hnr, if_neg (by decide), if_pos hfl]⟩
                rw [if_pos hfl]
                clear hnr hfl HE2
                go_wp2
                go_ret2
                rw [HE3.out]
                exact ⟨_, rfl, Kd.R_nil _ _ _ _ _, below_step HB.out HK.out⟩
              · have HE3 : Aside0 (cleanL m l0 known = (c, 0)) := ⟨by rw [HE2.out, hnr, if_neg (by decide), if_neg hfl]⟩
                rw [if_neg hfl]
                clear hnr hfl HE2
                go_wp2
                go_ret2
                rw [HE3.out]
                exact ⟨_, rfl, Kd.R_below HRet.out HK.out, below_step HB.out HK.out⟩
        · have HE3 : Aside0 (cleanL m l0 known = (c, 0)) := ⟨by rw [HE2.out, show c.length - 1 = 0 by omega]; rfl⟩
          clear HE2
          have hle : ¬ (0 : Int) < (c.length : Int) - 1 := by omega
          have hle' : ((0 : Int) < (c.length : Int) - 1) = False := eq_false hle
          go_wp2
          go_loopg [11, 49] 0 (fun gk v11 v49 w' => v49 = .int .i64 0 ∧ v11 = .int .i64 0 ∧ Aside0 (Below w4.heap.size w4 w'))
          case atStart => exact ⟨rfl, rfl, HK⟩
          case round =>
            clear HK
            obtain ⟨rfl, rfl, HK⟩ := hrel
            go_wp2
            go_ret2
            rw [HE3.out]
            exact ⟨_, rfl, Kd.R_below HRet.out HK.out, below_step HB.out HK.out⟩
  · have HE : Aside0 (cleanL m l0 known = ([], 1)) := ⟨by rw [cleanL, if_neg hall]⟩
    rw [HE.out]
    clear HE
    by_cases hv : validM m = true
    · rw [hv] at HV
      by_cases hok : readingsL l0 = true
      · rw [hok] at HRd
        have hkn : inB known 0 36524 = false := by rw [hv, hok] at hall; simpa using hall
        rw [hkn] at HW
        clear hall hv hok hkn
        go_enter Tryd.func13, Tryd.ntmps13
        go_wp2_with (first
          | (go_at_call 26; (with_reducible refine (meter_valid.calls m.f0 m.f1 m.f2 m.f3 m.f4.f0 m.f4.f1 true _ HV.out).mono ?_); rintro e w1 ⟨rfl, hb⟩; replace HB := Aside0.mk (below_step HB.out hb); replace BK := Aside0.mk (blk_below BK.out hb); have z0 : w1.cell? ⟨w.heap.size, 0, none⟩ = some (.int .i64 m.f0) := (blk_cell BK.out 0).trans rfl; have z1 : w1.cell? ⟨w.heap.size, 1, none⟩ = some (.int .i64 m.f1) := (blk_cell BK.out 1).trans rfl; have z2 : w1.cell? ⟨w.heap.size, 2, none⟩ = some (.int .i64 m.f2) := (blk_cell BK.out 2).trans rfl; have z3 : w1.cell? ⟨w.heap.size, 3, none⟩ = some (.int .i64 m.f3) := (blk_cell BK.out 3).trans rfl; have z4 : w1.cell? ⟨w.heap.size, 4, none⟩ = some (.int .i64 m.f4.f0) := (blk_cell BK.out 4).trans rfl; have z5 : w1.cell? ⟨w.heap.size, 5, none⟩ = some (.int .i64 m.f4.f1) := (blk_cell BK.out 5).trans rfl; clear hb)
          | (go_at_call 27; (with_reducible refine (meter_readings.calls A0 c0 l0 true _ ?s1 HC0.out HRd.out).mono ?_); (case s1 => exact Kd.C_below HR0.out HB.out); rintro e w2 ⟨rfl, hb⟩; replace HB := Aside0.mk (below_step HB.out hb); replace BK := Aside0.mk (blk_below BK.out hb); have z0 : w2.cell? ⟨w.heap.size, 0, none⟩ = some (.int .i64 m.f0) := (blk_cell BK.out 0).trans rfl; have z1 : w2.cell? ⟨w.heap.size, 1, none⟩ = some (.int .i64 m.f1) := (blk_cell BK.out 1).trans rfl; have z2 : w2.cell? ⟨w.heap.size, 2, none⟩ = some (.int .i64 m.f2) := (blk_cell BK.out 2).trans rfl; have z3 : w2.cell? ⟨w.heap.size, 3, none⟩ = some (.int .i64 m.f3) := (blk_cell BK.out 3).trans rfl; have z4 : w2.cell? ⟨w.heap.size, 4, none⟩ = some (.int .i64 m.f4.f0) := (blk_cell BK.out 4).trans rfl; have z5 : w2.cell? ⟨w.heap.size, 5, none⟩ = some (.int .i64 m.f4.f1) := (blk_cell BK.out 5).trans rfl; clear hb)
          | (go_at_call 28; (with_reducible refine (meter_within.calls known 0 36524 false _ HW.out).mono ?_); rintro e w3 ⟨rfl, hd⟩; have hb := hd.below; replace HB := Aside0.mk (below_step HB.out hb); replace BK := Aside0.mk (blk_below BK.out hb); have z0 : w3.cell? ⟨w.heap.size, 0, none⟩ = some (.int .i64 m.f0) := (blk_cell BK.out 0).trans rfl; have z1 : w3.cell? ⟨w.heap.size, 1, none⟩ = some (.int .i64 m.f1) := (blk_cell BK.out 1).trans rfl; have z2 : w3.cell? ⟨w.heap.size, 2, none⟩ = some (.int .i64 m.f2) := (blk_cell BK.out 2).trans rfl; have z3 : w3.cell? ⟨w.heap.size, 3, none⟩ = some (.int .i64 m.f3) := (blk_cell BK.out 3).trans rfl; have z4 : w3.cell? ⟨w.heap.size, 4, none⟩ = some (.int .i64 m.f4.f0) := (blk_cell BK.out 4).trans rfl; have z5 : w3.cell? ⟨w.heap.size, 5, none⟩ = some (.int .i64 m.f4.f1) := (blk_cell BK.out 5).trans rfl; clear hb hd))
        go_ret2
        exact ⟨_, rfl, Kd.R_nil _ _ _ _ _, HB.out⟩
      · rw [Bool.not_eq_true] at hok
        rw [hok] at HRd
        clear hall hv hok
        go_enter Tryd.func13, Tryd.ntmps13
        go_wp2_with (first
          | (go_at_call 26; (with_reducible refine (meter_valid.calls m.f0 m.f1 m.f2 m.f3 m.f4.f0 m.f4.f1 true _ HV.out).mono ?_); rintro e w1 ⟨rfl, hb⟩; replace HB := Aside0.mk (below_step HB.out hb); replace BK := Aside0.mk (blk_below BK.out hb); have z0 : w1.cell? ⟨w.heap.size, 0, none⟩ = some (.int .i64 m.f0) := (blk_cell BK.out 0).trans rfl; have z1 : w1.cell? ⟨w.heap.size, 1, none⟩ = some (.int .i64 m.f1) := (blk_cell BK.out 1).trans rfl; have z2 : w1.cell? ⟨w.heap.size, 2, none⟩ = some (.int .i64 m.f2) := (blk_cell BK.out 2).trans rfl; have z3 : w1.cell? ⟨w.heap.size, 3, none⟩ = some (.int .i64 m.f3) := (blk_cell BK.out 3).trans rfl; have z4 : w1.cell? ⟨w.heap.size, 4, none⟩ = some (.int .i64 m.f4.f0) := (blk_cell BK.out 4).trans rfl; have z5 : w1.cell? ⟨w.heap.size, 5, none⟩ = some (.int .i64 m.f4.f1) := (blk_cell BK.out 5).trans rfl; clear hb)
          | (go_at_call 27; (with_reducible refine (meter_readings.calls A0 c0 l0 false _ ?s1 HC0.out HRd.out).mono ?_); (case s1 => exact Kd.C_below HR0.out HB.out); rintro e w2 ⟨rfl, hb⟩; replace HB := Aside0.mk (below_step HB.out hb); replace BK := Aside0.mk (blk_below BK.out hb); have z0 : w2.cell? ⟨w.heap.size, 0, none⟩ = some (.int .i64 m.f0) := (blk_cell BK.out 0).trans rfl; have z1 : w2.cell? ⟨w.heap.size, 1, none⟩ = some (.int .i64 m.f1) := (blk_cell BK.out 1).trans rfl; have z2 : w2.cell? ⟨w.heap.size, 2, none⟩ = some (.int .i64 m.f2) := (blk_cell BK.out 2).trans rfl; have z3 : w2.cell? ⟨w.heap.size, 3, none⟩ = some (.int .i64 m.f3) := (blk_cell BK.out 3).trans rfl; have z4 : w2.cell? ⟨w.heap.size, 4, none⟩ = some (.int .i64 m.f4.f0) := (blk_cell BK.out 4).trans rfl; have z5 : w2.cell? ⟨w.heap.size, 5, none⟩ = some (.int .i64 m.f4.f1) := (blk_cell BK.out 5).trans rfl; clear hb))
        go_ret2
        exact ⟨_, rfl, Kd.R_nil _ _ _ _ _, HB.out⟩
    · rw [Bool.not_eq_true] at hv
      rw [hv] at HV
      clear hall hv
      go_enter Tryd.func13, Tryd.ntmps13
      go_wp2_with (first
        | (go_at_call 26; (with_reducible refine (meter_valid.calls m.f0 m.f1 m.f2 m.f3 m.f4.f0 m.f4.f1 false _ HV.out).mono ?_); rintro e w1 ⟨rfl, hb⟩; replace HB := Aside0.mk (below_step HB.out hb); replace BK := Aside0.mk (blk_below BK.out hb); have z0 : w1.cell? ⟨w.heap.size, 0, none⟩ = some (.int .i64 m.f0) := (blk_cell BK.out 0).trans rfl; have z1 : w1.cell? ⟨w.heap.size, 1, none⟩ = some (.int .i64 m.f1) := (blk_cell BK.out 1).trans rfl; have z2 : w1.cell? ⟨w.heap.size, 2, none⟩ = some (.int .i64 m.f2) := (blk_cell BK.out 2).trans rfl; have z3 : w1.cell? ⟨w.heap.size, 3, none⟩ = some (.int .i64 m.f3) := (blk_cell BK.out 3).trans rfl; have z4 : w1.cell? ⟨w.heap.size, 4, none⟩ = some (.int .i64 m.f4.f0) := (blk_cell BK.out 4).trans rfl; have z5 : w1.cell? ⟨w.heap.size, 5, none⟩ = some (.int .i64 m.f4.f1) := (blk_cell BK.out 5).trans rfl; clear hb))
      go_ret2
      exact ⟨_, rfl, Kd.R_nil _ _ _ _ _, HB.out⟩
end Go.Proofs.YtknfkibnocfjiaaDoor.P
