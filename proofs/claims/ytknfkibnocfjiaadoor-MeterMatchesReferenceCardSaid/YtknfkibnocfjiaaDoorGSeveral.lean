/- The contract of meter.Several. -/
import Derived.Test.YtknfkibnocfjiaaDoorGSevSpec
namespace Go.Proofs.YtknfkibnocfjiaaDoor.P
open Go.RowKit Go.Proofs.YtknfkibnocfjiaaDoorW.PrintWords Go.Proofs.YtknfkibnocfjiaaDoorW.PrintLast Go.Proofs.YtknfkibnocfjiaaDoorW.PrintMore Go.Proofs.YtknfkibnocfjiaaDoor.M
set_option linter.unusedVariables false
set_option linter.unusedSimpArgs false
attribute [local go_sem] max2_int min2_int max_two min_two max_three min_three max_four min_four

set_option maxHeartbeats 32000000 in
set_option maxRecDepth 100000 in
theorem meter_Several_calls (AL : Option Addr) (cL : Nat) (l : List S25) (A0 : Option Addr) (c0 : Nat) (l0 : List S43) (d : S23) (known : Int) (w : World) (hl0 : Kd.C k25 w AL l.length l) (hcl : l.length ≤ cL) (hln : l.length ≤ 9223372036854775807) (hr0 : Kd.C k43 w A0 l0.length l0) (hc0 : l0.length ≤ c0) (hg : Gl w) :
    Calls Tryd.prog 20 #[.slice AL l.length cL, .slice A0 l0.length c0, .agg #[.int .i64 d.f0, .int .i64 d.f1], .int .i64 known] w (BoundsPost w (severalL l l0 d known)) := by
  have hu43 := Tryd.underlying43
  have hu25 := Tryd.underlying25
  have hu23 := Tryd.underlying23
  have hu36 := Tryd.underlying36
  have HL0 := Aside0.mk hl0
  have HR0 := Aside0.mk hr0
  have HC0 := Aside0.mk hc0
  have HGl := Aside0.mk hg
  have HVa := Aside0.mk (fun W h => meter_Valid_calls AL cL l W h hcl hln)
  have HSt := Aside0.mk (stretch_f d.f0 d.f1)
  have HRd : Aside0 (meter_readings.f l0 = some (readingsL l0)) := ⟨rfl⟩
  have HW := Aside0.mk (within_f known 0 36524)
  have HB := Aside0.mk (below_alloc (below_alloc (Below.refl w.heap.size w) (.cells #[.int .i64 d.f0, .int .i64 d.f1] 23)) (.cells #[.int .i64 0, .int .i64 0] 36))
  have BD := Aside0.mk (blk_alloc (blk_new w (.cells #[.int .i64 d.f0, .int .i64 d.f1] 23)) (.cells #[.int .i64 0, .int .i64 0] 36))
  have BR := Aside0.mk (blk_p1 w (.cells #[.int .i64 d.f0, .int .i64 d.f1] 23) (.cells #[.int .i64 0, .int .i64 0] 36))
  clear hl0 hr0 hc0 hg hcl hln
  by_cases hall : (validL l && stretchB d.f0 d.f1 && readingsL l0 && inB known 0 36524) = true
  · have hb1 : validL l = true := by simp only [Bool.and_eq_true] at hall; exact hall.1.1.1
    have hb2 : stretchB d.f0 d.f1 = true := by simp only [Bool.and_eq_true] at hall; exact hall.1.1.2
    have hb3 : readingsL l0 = true := by simp only [Bool.and_eq_true] at hall; exact hall.1.2
    have hb4 : inB known 0 36524 = true := by simp only [Bool.and_eq_true] at hall; exact hall.2
    have HE : Aside0 (severalL l l0 d known = if ((List.range (l.length - 1)).any (gapBad l)) = true then ((0, 0), 1) else sevF l0 d known l (0, 0)) := ⟨by rw [severalL, if_pos hall]⟩
    have hl200 : l.length ≤ 200 := by
      unfold validL at hb1
      simp only [Bool.and_eq_true, decide_eq_true_eq] at hb1
      exact hb1.1
    have HMv : Aside0 (∀ i : Nat, i < l.length → validM (rd_T25 l (i : Int)) = true) := ⟨fun i hi => by
      unfold validL at hb1
      rw [Bool.and_eq_true] at hb1
      have h := List.all_eq_true.1 hb1.2 i (List.mem_range.2 hi)
      unfold vAt at h
      rw [Bool.and_eq_true] at h
      exact h.1⟩
    rw [hb1] at HVa
    rw [hb2] at HSt
    rw [hb3] at HRd
    rw [hb4] at HW
    clear hall hb1 hb2 hb3 hb4
    go_enter Tryd.func20, Tryd.ntmps20
    go_upto_region 3 with (first
        | (go_at_call 15; (with_reducible refine (HVa.out _ (Kd.C_below HL0.out HB.out)).mono ?_); rintro e w1 ⟨rfl, hb⟩; replace HB := Aside0.mk (below_step HB.out hb); replace BD := Aside0.mk (blk_below BD.out hb); replace BR := Aside0.mk (blk_below BR.out hb); have d0 : w1.cell? ⟨w.heap.size, 0, none⟩ = some (.int .i64 d.f0) := (blk_cell BD.out 0).trans rfl; have d1 : w1.cell? ⟨w.heap.size, 1, none⟩ = some (.int .i64 d.f1) := (blk_cell BD.out 1).trans rfl; have q0 : w1.cell? ⟨w.heap.size + 1, 0, none⟩ = some (.int .i64 0) := (blk_cell BR.out 0).trans rfl; have q1 : w1.cell? ⟨w.heap.size + 1, 1, none⟩ = some (.int .i64 0) := (blk_cell BR.out 1).trans rfl; have qf0 := blk_frozen BR.out 0; have qf1 := blk_frozen BR.out 1; clear hb)
        | (go_at_call 36; (with_reducible refine (meter_stretch.calls d.f0 d.f1 true _ HSt.out).mono ?_); rintro e w2 ⟨rfl, hb⟩; replace HB := Aside0.mk (below_step HB.out hb); replace BD := Aside0.mk (blk_below BD.out hb); replace BR := Aside0.mk (blk_below BR.out hb); have d0 : w2.cell? ⟨w.heap.size, 0, none⟩ = some (.int .i64 d.f0) := (blk_cell BD.out 0).trans rfl; have d1 : w2.cell? ⟨w.heap.size, 1, none⟩ = some (.int .i64 d.f1) := (blk_cell BD.out 1).trans rfl; have q0 : w2.cell? ⟨w.heap.size + 1, 0, none⟩ = some (.int .i64 0) := (blk_cell BR.out 0).trans rfl; have q1 : w2.cell? ⟨w.heap.size + 1, 1, none⟩ = some (.int .i64 0) := (blk_cell BR.out 1).trans rfl; have qf0 := blk_frozen BR.out 0; have qf1 := blk_frozen BR.out 1; clear hb)
        | (go_at_call 27; (with_reducible refine (meter_readings.calls A0 c0 l0 true _ ?s1 HC0.out HRd.out).mono ?_); (case s1 => exact Kd.C_below HR0.out HB.out); rintro e w3 ⟨rfl, hb⟩; replace HB := Aside0.mk (below_step HB.out hb); replace BD := Aside0.mk (blk_below BD.out hb); replace BR := Aside0.mk (blk_below BR.out hb); have d0 : w3.cell? ⟨w.heap.size, 0, none⟩ = some (.int .i64 d.f0) := (blk_cell BD.out 0).trans rfl; have d1 : w3.cell? ⟨w.heap.size, 1, none⟩ = some (.int .i64 d.f1) := (blk_cell BD.out 1).trans rfl; have q0 : w3.cell? ⟨w.heap.size + 1, 0, none⟩ = some (.int .i64 0) := (blk_cell BR.out 0).trans rfl; have q1 : w3.cell? ⟨w.heap.size + 1, 1, none⟩ = some (.int .i64 0) := (blk_cell BR.out 1).trans rfl; have qf0 := blk_frozen BR.out 0; have qf1 := blk_frozen BR.out 1; clear hb)
        | (go_at_call 28; (with_reducible refine (meter_within.calls known 0 36524 true _ HW.out).mono ?_); rintro e w4 ⟨rfl, hd⟩; have hb := hd.below; clear hd; replace HB := Aside0.mk (below_step HB.out hb); replace BD := Aside0.mk (blk_below BD.out hb); replace BR := Aside0.mk (blk_below BR.out hb); have d0 : w4.cell? ⟨w.heap.size, 0, none⟩ = some (.int .i64 d.f0) := (blk_cell BD.out 0).trans rfl; have d1 : w4.cell? ⟨w.heap.size, 1, none⟩ = some (.int .i64 d.f1) := (blk_cell BD.out 1).trans rfl; have q0 : w4.cell? ⟨w.heap.size + 1, 0, none⟩ = some (.int .i64 0) := (blk_cell BR.out 0).trans rfl; have q1 : w4.cell? ⟨w.heap.size + 1, 1, none⟩ = some (.int .i64 0) := (blk_cell BR.out 1).trans rfl; have qf0 := blk_frozen BR.out 0; have qf1 := blk_frozen BR.out 1; clear hb))
    clear HVa HSt HRd HW d0 d1 q0 q1 qf0 qf1
    by_cases hz : 2 ≤ l.length
    · have hgt : (0 : Int) < (l.length : Int) - 1 := by omega
      have hgt' : ((0 : Int) < (l.length : Int) - 1) = True := eq_true hgt
      go_wp2
      have hN1 : ((l.length - 1 : Nat) : Int) = (l.length : Int) - 1 := by omega
      have HN1 := Aside0.mk hN1
      clear hN1 hgt hgt'
      go_loopg [39] (l.length - 1) (fun gk v39 w' => ∃ i : Nat, v39 = .int .i64 i ∧ Aside0 (i ≤ l.length - 1 ∧ gk = l.length - 1 - i) ∧ Aside0 (∀ j : Nat, j < i → gapBad l j = false) ∧ Aside0 (Below w4.heap.size w4 w'))
      case atStart => exact ⟨0, rfl, ⟨Nat.zero_le _, rfl⟩, ⟨fun j hj => absurd hj (Nat.not_lt_zero j)⟩, ⟨Below.refl _ _⟩⟩
      case round =>
        obtain ⟨i, rfl, HI, HD2, HK⟩ := hrel
        have hi := HI.out.1
        by_cases hlt2 : i < l.length - 1
        · obtain ⟨xad, e, x0, x1, x2, x3, x4, x5⟩ := at_T25 HL0.out ((i : Nat) : Int) (by omega) (by omega)
          cases e
          obtain ⟨yad, e, y0, y1, y2, y3, y4, y5⟩ := at_T25 HL0.out ((i + 1 : Nat) : Int) (by omega) (by omega)
          cases e
          simp only [Int.toNat_natCast] at x5 y4
          have HBr := Aside0.mk (below_step HB.out HK.out)
          replace x5 := cell_on HBr.out x5
          replace y4 := cell_on HBr.out y4
          clear x0 x1 x2 x3 x4 y0 y1 y2 y3 y5
          have hlt3 : (i : Int) < (l.length : Int) - 1 := by omega
          have hlt4 : ((i : Int) + 1) < (l.length : Int) := by omega
          have hlt5 : (i : Int) < (l.length : Int) := by omega
          have hw1 : IntKind.i64.wrap ((i : Int) + 1) = (i : Int) + 1 := Go.IntWalk.i64_in _ (by omega)
          have hti : ((i : Int) + 1).toNat = i + 1 := by omega
          have HGB : Aside0 (gapBad l i = decide ((rd_T25 l ((i + 1 : Nat) : Int)).f4.f0 < (rd_T25 l (i : Int)).f4.f1)) := ⟨rfl⟩
          generalize (rd_T25 l (i : Int)).f4.f1 = xu at *
          generalize (rd_T25 l ((i + 1 : Nat) : Int)).f4.f0 = yf at *
          by_cases hgb : yf < xu
          · have e1 : decide (yf < xu) = true := decide_eq_true hgb
            have HE3 : Aside0 (severalL l l0 d known = ((0, 0), 1)) := ⟨by
              rw [HE.out, if_pos]
              rw [List.any_eq_true]
              exact ⟨i, List.mem_range.2 hlt2, by rw [HGB.out]; exact e1⟩⟩
            have BRr := Aside0.mk (blk_below BR.out HK.out)
            have q0 : wr.cell? ⟨w.heap.size + 1, 0, none⟩ = some (.int .i64 0) := (blk_cell BRr.out 0).trans rfl
            have q1 : wr.cell? ⟨w.heap.size + 1, 1, none⟩ = some (.int .i64 0) := (blk_cell BRr.out 1).trans rfl
            have qf0 := blk_frozen BRr.out 0
            have qf1 := blk_frozen BRr.out 1
            go_wp2
            go_quiet (fail)
            go_wp2
            rw [HE3.out]
            have BRf := blk_put (blk_put (blk_drewN BRr.out nq) 0 (.int .i64 0) rfl) 1 (.int .i64 0) rfl
            have z0 := (blk_cell BRf 0).trans rfl
            have z1 := (blk_cell BRf 1).trans rfl
            have hsw := HBr.out.size
            refine bodyPost_ret (v := .tuple #[.agg #[.int .i64 0, .int .i64 0], .int .i64 1]) ?_ rfl ⟨rfl, below_set (below_set (pw_below_drewN HBr.out _) (by omega)) (by omega)⟩
            simp [results, Tryd.f20, go_sem, z0, z1]
          · have e1 : decide (yf < xu) = false := decide_eq_false hgb
            have HD3 : Aside0 (∀ j : Nat, j < i + 1 → gapBad l j = false) := ⟨fun j hj => by
              rcases Nat.lt_or_ge j i with h | h
              · exact HD2.out j h
              · obtain rfl : j = i := by omega
                rw [HGB.out]; exact e1⟩
            go_wp2
            go_quiet (fail)
            go_wp2
            go_roundg (l.length - 1 - (i + 1))
            case measure => have := HI.out; omega
            case rel => exact ⟨i + 1, by go_num, ⟨by omega, rfl⟩, HD3, ⟨pw_below_drewN HK.out _⟩⟩
        · obtain rfl : i = l.length - 1 := by omega
          have HE3 : Aside0 (severalL l l0 d known = sevF l0 d known l (0, 0)) := ⟨by
            rw [HE.out, if_neg]
            rw [Bool.not_eq_true, List.any_eq_false]
            intro j hj
            rw [HD2.out j (List.mem_range.1 hj)]; decide⟩
          clear HE HD2 HI hlt2 hi
          have HD6 := Aside0.mk (blk_below BD.out HK.out)
          have HR6 := Aside0.mk (blk_below BR.out HK.out)
          have HB6 := Aside0.mk (below_step HB.out HK.out)
          obtain ⟨w6, hw6⟩ : ∃ w6, wr = w6 := ⟨_, rfl⟩
          rw [hw6] at HD6 HR6 HB6 ⊢
          clear hw6
          clear HK
          go_wp2
          have hsw := HB6.out.size
          have hsR := blk_lt HR6.out
          go_loopg [60] l.length (fun gk v60 w' => ∃ i : Nat, v60 = .int .i64 i ∧ Aside0 (i ≤ l.length ∧ gk = l.length - i) ∧ Aside0 (Below w6.heap.size w6 w') ∧ Aside0 (∃ s : Int × Int, w'.heap[w6.heap.size]? = some (.cells #[.int .i64 s.1, .int .i64 s.2] 36 (0, 0)) ∧ sevF l0 d known (l.drop i) s = sevF l0 d known l (0, 0)))
          case atStart => exact ⟨0, rfl, ⟨Nat.zero_le _, rfl⟩, ⟨below_alloc (Below.refl _ _) _⟩, ⟨(0, 0), blk_new _ _, rfl⟩⟩
          case round =>
            obtain ⟨i, rfl, HI, HK, HSm⟩ := hrel
            obtain ⟨⟨s1, s2⟩, BS0, hsv⟩ := HSm.out
            have BS := Aside0.mk BS0
            have HSV := Aside0.mk hsv
            have hi := HI.out.1
            clear HSm BS0 hsv
            by_cases hlt : i < l.length
            · obtain ⟨xad, e, x0, x1, x2, x3, x4, x5⟩ := at_T25 HL0.out ((i : Nat) : Int) (by omega) (by omega)
              cases e
              simp only [Int.toNat_natCast] at x0 x1 x2 x3 x4 x5
              have HBr := Aside0.mk (below_step HB6.out HK.out)
              replace x0 := cell_on HBr.out x0
              replace x1 := cell_on HBr.out x1
              replace x2 := cell_on HBr.out x2
              replace x3 := cell_on HBr.out x3
              replace x4 := cell_on HBr.out x4
              replace x5 := cell_on HBr.out x5
              have HDr : Aside0 (l.drop i = rd_T25 l (i : Int) :: l.drop (i + 1)) := ⟨by rw [rd25_get hlt]; exact List.drop_eq_getElem_cons hlt⟩
              generalize hm : rd_T25 l (i : Int) = m at *
              clear hm
              have HBc := Aside0.mk (fun W h1 h2 => meter_Bounds_calls m A0 c0 l0 d known W h1 HC0.out h2)
              have HX : Aside0 (sevF l0 d known (l.drop i) (s1, s2) = if (boundsL m l0 d known).2 = 0 then sevF l0 d known (l.drop (i + 1)) (wrap64 (s1 + (boundsL m l0 d known).1.1), wrap64 (s2 + (boundsL m l0 d known).1.2)) else ((0, 0), (boundsL m l0 d known).2)) := ⟨by rw [HDr.out, sevF]⟩
              unfold BoundsPost at HBc
              generalize hb1 : (boundsL m l0 d known).1.1 = b1 at *
              generalize hb2 : (boundsL m l0 d known).1.2 = b2 at *
              generalize hb3 : (boundsL m l0 d known).2 = er at *
              clear hb1 hb2 hb3
              have BDr := Aside0.mk (blk_below HD6.out HK.out)
              have BRr := Aside0.mk (blk_below HR6.out HK.out)
              have a0 : (wr.alloc (.cells #[.int .i64 m.f0, .int .i64 m.f1, .int .i64 m.f2, .int .i64 m.f3, .int .i64 m.f4.f0, .int .i64 m.f4.f1] 25)).cell? ⟨w.heap.size, 0, none⟩ = some (.int .i64 d.f0) := (blk_cell (blk_alloc BDr.out _) 0).trans rfl
              have a1 : (wr.alloc (.cells #[.int .i64 m.f0, .int .i64 m.f1, .int .i64 m.f2, .int .i64 m.f3, .int .i64 m.f4.f0, .int .i64 m.f4.f1] 25)).cell? ⟨w.heap.size, 1, none⟩ = some (.int .i64 d.f1) := (blk_cell (blk_alloc BDr.out _) 1).trans rfl
              have BSa := Aside0.mk (blk_alloc BS.out (.cells #[.int .i64 m.f0, .int .i64 m.f1, .int .i64 m.f2, .int .i64 m.f3, .int .i64 m.f4.f0, .int .i64 m.f4.f1] 25))
              have BRa := Aside0.mk (blk_alloc BRr.out (.cells #[.int .i64 m.f0, .int .i64 m.f1, .int .i64 m.f2, .int .i64 m.f3, .int .i64 m.f4.f0, .int .i64 m.f4.f1] 25))
              have HBa := Aside0.mk (below_alloc HBr.out (.cells #[.int .i64 m.f0, .int .i64 m.f1, .int .i64 m.f2, .int .i64 m.f3, .int .i64 m.f4.f0, .int .i64 m.f4.f1] 25))
              have HKa := Aside0.mk (below_alloc HK.out (.cells #[.int .i64 m.f0, .int .i64 m.f1, .int .i64 m.f2, .int .i64 m.f3, .int .i64 m.f4.f0, .int .i64 m.f4.f1] 25))
              by_cases her : er = 0
              · have e1 : (er != 0) = false := by simp [her]
                have HX2 : Aside0 (sevF l0 d known (l.drop (i + 1)) (wrap64 (s1 + b1), wrap64 (s2 + b2)) = sevF l0 d known l (0, 0)) := ⟨by rw [← HSV.out, HX.out, if_pos her]⟩
                clear her HX HSV
                go_wp2_with (first
                  | (go_at_call 18; (with_reducible refine (HBc.out _ (Kd.C_below HR0.out HBa.out) (HGl.out.below HBa.out)).mono ?_); rintro e w7 ⟨rfl, hb⟩; have HB7 := Aside0.mk hb; have s0 : (w7.alloc (.cells #[.int .i64 b1, .int .i64 b2] 36)).cell? ⟨w6.heap.size, 0, none⟩ = some (.int .i64 s1) := (blk_cell (blk_alloc (blk_below BSa.out hb) _) 0).trans rfl; have s1' : (w7.alloc (.cells #[.int .i64 b1, .int .i64 b2] 36)).cell? ⟨w6.heap.size, 1, none⟩ = some (.int .i64 s2) := (blk_cell (blk_alloc (blk_below BSa.out hb) _) 1).trans rfl; have sf0 := blk_frozen (blk_alloc (blk_below BSa.out hb) (.cells #[.int .i64 b1, .int .i64 b2] 36)) 0; have sf1 := blk_frozen (blk_alloc (blk_below BSa.out hb) (.cells #[.int .i64 b1, .int .i64 b2] 36)) 1; clear hb))
                have BS2 := Aside0.mk (blk_put (blk_put (blk_alloc (blk_below BSa.out HB7.out) (.cells #[.int .i64 b1, .int .i64 b2] 36)) 0 (.int .i64 (wrap64 (s1 + b1))) rfl) 1 (.int .i64 (wrap64 (s2 + b2))) rfl)
                have HK2 := Aside0.mk (below_set (g := w6.heap.size) (j := 1) (v := .int .i64 (wrap64 (s2 + b2))) (below_set (g := w6.heap.size) (j := 0) (v := .int .i64 (wrap64 (s1 + b1))) (below_alloc (below_step HKa.out HB7.out) (.cells #[.int .i64 b1, .int .i64 b2] 36)) (Nat.le_refl _)) (Nat.le_refl _))
                go_roundg (l.length - (i + 1))
                case measure => have := HI.out; omega
                case rel => exact ⟨i + 1, by go_num, ⟨by omega, rfl⟩, HK2, ⟨(_, _), BS2.out, HX2.out⟩⟩
              · have e1 : (er != 0) = true := by rw [bne_iff_ne]; exact her
                have HX2 : Aside0 (sevF l0 d known l (0, 0) = ((0, 0), er)) := ⟨by rw [← HSV.out, HX.out, if_neg her]⟩
                clear her HX HSV
                go_wp2_with (first
                  | (go_at_call 18; (with_reducible refine (HBc.out _ (Kd.C_below HR0.out HBa.out) (HGl.out.below HBa.out)).mono ?_); rintro e w7 ⟨rfl, hb⟩; have HB7 := Aside0.mk hb; have r0 : (w7.alloc (.cells #[.int .i64 b1, .int .i64 b2] 36)).cell? ⟨w.heap.size + 1, 0, none⟩ = some (.int .i64 0) := (blk_cell (blk_alloc (blk_below BRa.out hb) _) 0).trans rfl; have r1 : (w7.alloc (.cells #[.int .i64 b1, .int .i64 b2] 36)).cell? ⟨w.heap.size + 1, 1, none⟩ = some (.int .i64 0) := (blk_cell (blk_alloc (blk_below BRa.out hb) _) 1).trans rfl; have rf0 := blk_frozen (blk_alloc (blk_below BRa.out hb) (.cells #[.int .i64 b1, .int .i64 b2] 36)) 0; have rf1 := blk_frozen (blk_alloc (blk_below BRa.out hb) (.cells #[.int .i64 b1, .int .i64 b2] 36)) 1; clear hb))
                rw [HE3.out, HX2.out]
                have BRf := blk_put (blk_put (blk_alloc (blk_below BRa.out HB7.out) (.cells #[.int .i64 b1, .int .i64 b2] 36)) 0 (.int .i64 0) rfl) 1 (.int .i64 0) rfl
                have y0 := (blk_cell BRf 0).trans rfl
                have y1 := (blk_cell BRf 1).trans rfl
                refine bodyPost_ret (v := .tuple #[.agg #[.int .i64 0, .int .i64 0], .int .i64 er]) ?_ rfl ⟨rfl, below_set (below_set (below_alloc (below_step HBa.out HB7.out) _) (by omega)) (by omega)⟩
                simp [results, Tryd.f20, go_sem, y0, y1]
            · obtain rfl : i = l.length := by omega
              have HX2 : Aside0 (sevF l0 d known l (0, 0) = ((s1, s2), 0)) := ⟨by rw [← HSV.out, List.drop_length, sevF]⟩
              clear HSV
              have BRr := Aside0.mk (blk_below HR6.out HK.out)
              have s0 : wr.cell? ⟨w6.heap.size, 0, none⟩ = some (.int .i64 s1) := (blk_cell BS.out 0).trans rfl
              have s1' : wr.cell? ⟨w6.heap.size, 1, none⟩ = some (.int .i64 s2) := (blk_cell BS.out 1).trans rfl
              have r0 : wr.cell? ⟨w.heap.size + 1, 0, none⟩ = some (.int .i64 0) := (blk_cell BRr.out 0).trans rfl
              have r1 : wr.cell? ⟨w.heap.size + 1, 1, none⟩ = some (.int .i64 0) := (blk_cell BRr.out 1).trans rfl
              have rf0 := blk_frozen BRr.out 0
              have rf1 := blk_frozen BRr.out 1
              go_wp2
              rw [HE3.out, HX2.out]
              have BRf := blk_put (blk_put BRr.out 0 (.int .i64 s1) rfl) 1 (.int .i64 s2) rfl
              have y0 := (blk_cell BRf 0).trans rfl
              have y1 := (blk_cell BRf 1).trans rfl
              refine bodyPost_ret (v := .tuple #[.agg #[.int .i64 s1, .int .i64 s2], .int .i64 0]) ?_ rfl ⟨rfl, below_set (below_set (below_step HB6.out HK.out) (by omega)) (by omega)⟩
              simp [results, Tryd.f20, go_sem, y0, y1]
    · have hle : ¬ (0 : Int) < (l.length : Int) - 1 := by omega
      have hle' : ((0 : Int) < (l.length : Int) - 1) = False := eq_false hle
      have HE3 : Aside0 (severalL l l0 d known = sevF l0 d known l (0, 0)) := ⟨by
        rw [HE.out, show l.length - 1 = 0 by omega]; rfl⟩
      go_wp2
      go_loopg [39] 0 (fun gk v39 w' => v39 = .int .i64 0 ∧ Aside0 (Below w4.heap.size w4 w'))
      case atStart => exact ⟨rfl, ⟨Below.refl _ _⟩⟩
      case round =>
        obtain ⟨rfl, HK⟩ := hrel
        clear HE hle hle'
        have HD6 := Aside0.mk (blk_below BD.out HK.out)
        have HR6 := Aside0.mk (blk_below BR.out HK.out)
        have HB6 := Aside0.mk (below_step HB.out HK.out)
        obtain ⟨w6, hw6⟩ : ∃ w6, wr = w6 := ⟨_, rfl⟩
        rw [hw6] at HD6 HR6 HB6 ⊢
        clear hw6
        clear HK
        go_wp2
        have hsw := HB6.out.size
        have hsR := blk_lt HR6.out
        go_loopg [60] l.length (fun gk v60 w' => ∃ i : Nat, v60 = .int .i64 i ∧ Aside0 (i ≤ l.length ∧ gk = l.length - i) ∧ Aside0 (Below w6.heap.size w6 w') ∧ Aside0 (∃ s : Int × Int, w'.heap[w6.heap.size]? = some (.cells #[.int .i64 s.1, .int .i64 s.2] 36 (0, 0)) ∧ sevF l0 d known (l.drop i) s = sevF l0 d known l (0, 0)))
        case atStart => exact ⟨0, rfl, ⟨Nat.zero_le _, rfl⟩, ⟨below_alloc (Below.refl _ _) _⟩, ⟨(0, 0), blk_new _ _, rfl⟩⟩
        case round =>
          obtain ⟨i, rfl, HI, HK, HSm⟩ := hrel
          obtain ⟨⟨s1, s2⟩, BS0, hsv⟩ := HSm.out
          have BS := Aside0.mk BS0
          have HSV := Aside0.mk hsv
          have hi := HI.out.1
          clear HSm BS0 hsv
          by_cases hlt : i < l.length
          · obtain ⟨xad, e, x0, x1, x2, x3, x4, x5⟩ := at_T25 HL0.out ((i : Nat) : Int) (by omega) (by omega)
            cases e
            simp only [Int.toNat_natCast] at x0 x1 x2 x3 x4 x5
            have HBr := Aside0.mk (below_step HB6.out HK.out)
            replace x0 := cell_on HBr.out x0
            replace x1 := cell_on HBr.out x1
            replace x2 := cell_on HBr.out x2
            replace x3 := cell_on HBr.out x3
            replace x4 := cell_on HBr.out x4
            replace x5 := cell_on HBr.out x5
            have HDr : Aside0 (l.drop i = rd_T25 l (i : Int) :: l.drop (i + 1)) := ⟨by rw [rd25_get hlt]; exact List.drop_eq_getElem_cons hlt⟩
            generalize hm : rd_T25 l (i : Int) = m at *
            clear hm
            have HBc := Aside0.mk (fun W h1 h2 => meter_Bounds_calls m A0 c0 l0 d known W h1 HC0.out h2)
            have HX : Aside0 (sevF l0 d known (l.drop i) (s1, s2) = if (boundsL m l0 d known).2 = 0 then sevF l0 d known (l.drop (i + 1)) (wrap64 (s1 + (boundsL m l0 d known).1.1), wrap64 (s2 + (boundsL m l0 d known).1.2)) else ((0, 0), (boundsL m l0 d known).2)) := ⟨by rw [HDr.out, sevF]⟩
            unfold BoundsPost at HBc
            generalize hb1 : (boundsL m l0 d known).1.1 = b1 at *
            generalize hb2 : (boundsL m l0 d known).1.2 = b2 at *
            generalize hb3 : (boundsL m l0 d known).2 = er at *
            clear hb1 hb2 hb3
            have BDr := Aside0.mk (blk_below HD6.out HK.out)
            have BRr := Aside0.mk (blk_below HR6.out HK.out)
            have a0 : (wr.alloc (.cells #[.int .i64 m.f0, .int .i64 m.f1, .int .i64 m.f2, .int .i64 m.f3, .int .i64 m.f4.f0, .int .i64 m.f4.f1] 25)).cell? ⟨w.heap.size, 0, none⟩ = some (.int .i64 d.f0) := (blk_cell (blk_alloc BDr.out _) 0).trans rfl
            have a1 : (wr.alloc (.cells #[.int .i64 m.f0, .int .i64 m.f1, .int .i64 m.f2, .int .i64 m.f3, .int .i64 m.f4.f0, .int .i64 m.f4.f1] 25)).cell? ⟨w.heap.size, 1, none⟩ = some (.int .i64 d.f1) := (blk_cell (blk_alloc BDr.out _) 1).trans rfl
            have BSa := Aside0.mk (blk_alloc BS.out (.cells #[.int .i64 m.f0, .int .i64 m.f1, .int .i64 m.f2, .int .i64 m.f3, .int .i64 m.f4.f0, .int .i64 m.f4.f1] 25))
            have BRa := Aside0.mk (blk_alloc BRr.out (.cells #[.int .i64 m.f0, .int .i64 m.f1, .int .i64 m.f2, .int .i64 m.f3, .int .i64 m.f4.f0, .int .i64 m.f4.f1] 25))
            have HBa := Aside0.mk (below_alloc HBr.out (.cells #[.int .i64 m.f0, .int .i64 m.f1, .int .i64 m.f2, .int .i64 m.f3, .int .i64 m.f4.f0, .int .i64 m.f4.f1] 25))
            have HKa := Aside0.mk (below_alloc HK.out (.cells #[.int .i64 m.f0, .int .i64 m.f1, .int .i64 m.f2, .int .i64 m.f3, .int .i64 m.f4.f0, .int .i64 m.f4.f1] 25))
            by_cases her : er = 0
            · have e1 : (er != 0) = false := by simp [her]
              have HX2 : Aside0 (sevF l0 d known (l.drop (i + 1)) (wrap64 (s1 + b1), wrap64 (s2 + b2)) = sevF l0 d known l (0, 0)) := ⟨by rw [← HSV.out, HX.out, if_pos her]⟩
              clear her HX HSV
              go_wp2_with (first
                | (go_at_call 18; (with_reducible refine (HBc.out _ (Kd.C_below HR0.out HBa.out) (HGl.out.below HBa.out)).mono ?_); rintro e w7 ⟨rfl, hb⟩; have HB7 := Aside0.mk hb; have s0 : (w7.alloc (.cells #[.int .i64 b1, .int .i64 b2] 36)).cell? ⟨w6.heap.size, 0, none⟩ = some (.int .i64 s1) := (blk_cell (blk_alloc (blk_below BSa.out hb) _) 0).trans rfl; have s1' : (w7.alloc (.cells #[.int .i64 b1, .int .i64 b2] 36)).cell? ⟨w6.heap.size, 1, none⟩ = some (.int .i64 s2) := (blk_cell (blk_alloc (blk_below BSa.out hb) _) 1).trans rfl; have sf0 := blk_frozen (blk_alloc (blk_below BSa.out hb) (.cells #[.int .i64 b1, .int .i64 b2] 36)) 0; have sf1 := blk_frozen (blk_alloc (blk_below BSa.out hb) (.cells #[.int .i64 b1, .int .i64 b2] 36)) 1; clear hb))
              have BS2 := Aside0.mk (blk_put (blk_put (blk_alloc (blk_below BSa.out HB7.out) (.cells #[.int .i64 b1, .int .i64 b2] 36)) 0 (.int .i64 (wrap64 (s1 + b1))) rfl) 1 (.int .i64 (wrap64 (s2 + b2))) rfl)
              have HK2 := Aside0.mk (below_set (g := w6.heap.size) (j := 1) (v := .int .i64 (wrap64 (s2 + b2))) (below_set (g := w6.heap.size) (j := 0) (v := .int .i64 (wrap64 (s1 + b1))) (below_alloc (below_step HKa.out HB7.out) (.cells #[.int .i64 b1, .int .i64 b2] 36)) (Nat.le_refl _)) (Nat.le_refl _))
              go_roundg (l.length - (i + 1))
              case measure => have := HI.out; omega
              case rel => exact ⟨i + 1, by go_num, ⟨by omega, rfl⟩, HK2, ⟨(_, _), BS2.out, HX2.out⟩⟩
            · have e1 : (er != 0) = true := by rw [bne_iff_ne]; exact her
              have HX2 : Aside0 (sevF l0 d known l (0, 0) = ((0, 0), er)) := ⟨by rw [← HSV.out, HX.out, if_neg her]⟩
              clear her HX HSV
              go_wp2_with (first
                | (go_at_call 18; (with_reducible refine (HBc.out _ (Kd.C_below HR0.out HBa.out) (HGl.out.below HBa.out)).mono ?_); rintro e w7 ⟨rfl, hb⟩; have HB7 := Aside0.mk hb; have r0 : (w7.alloc (.cells #[.int .i64 b1, .int .i64 b2] 36)).cell? ⟨w.heap.size + 1, 0, none⟩ = some (.int .i64 0) := (blk_cell (blk_alloc (blk_below BRa.out hb) _) 0).trans rfl; have r1 : (w7.alloc (.cells #[.int .i64 b1, .int .i64 b2] 36)).cell? ⟨w.heap.size + 1, 1, none⟩ = some (.int .i64 0) := (blk_cell (blk_alloc (blk_below BRa.out hb) _) 1).trans rfl; have rf0 := blk_frozen (blk_alloc (blk_below BRa.out hb) (.cells #[.int .i64 b1, .int .i64 b2] 36)) 0; have rf1 := blk_frozen (blk_alloc (blk_below BRa.out hb) (.cells #[.int .i64 b1, .int .i64 b2] 36)) 1; clear hb))
              rw [HE3.out, HX2.out]
              have BRf := blk_put (blk_put (blk_alloc (blk_below BRa.out HB7.out) (.cells #[.int .i64 b1, .int .i64 b2] 36)) 0 (.int .i64 0) rfl) 1 (.int .i64 0) rfl
              have y0 := (blk_cell BRf 0).trans rfl
              have y1 := (blk_cell BRf 1).trans rfl
              refine bodyPost_ret (v := .tuple #[.agg #[.int .i64 0, .int .i64 0], .int .i64 er]) ?_ rfl ⟨rfl, below_set (below_set (below_alloc (below_step HBa.out HB7.out) _) (by omega)) (by omega)⟩
              simp [results, Tryd.f20, go_sem, y0, y1]
          · obtain rfl : i = l.length := by omega
            have HX2 : Aside0 (sevF l0 d known l (0, 0) = ((s1, s2), 0)) := ⟨by rw [← HSV.out, List.drop_length, sevF]⟩
            clear HSV
            have BRr := Aside0.mk (blk_below HR6.out HK.out)
            have s0 : wr.cell? ⟨w6.heap.size, 0, none⟩ = some (.int .i64 s1) := (blk_cell BS.out 0).trans rfl
            have s1' : wr.cell? ⟨w6.heap.size, 1, none⟩ = some (.int .i64 s2) := (blk_cell BS.out 1).trans rfl
            have r0 : wr.cell? ⟨w.heap.size + 1, 0, none⟩ = some (.int .i64 0) := (blk_cell BRr.out 0).trans rfl
            have r1 : wr.cell? ⟨w.heap.size + 1, 1, none⟩ = some (.int .i64 0) := (blk_cell BRr.out 1).trans rfl
            have rf0 := blk_frozen BRr.out 0
            have rf1 := blk_frozen BRr.out 1
            go_wp2
            rw [HE3.out, HX2.out]
            have BRf := blk_put (blk_put BRr.out 0 (.int .i64 s1) rfl) 1 (.int .i64 s2) rfl
            have y0 := (blk_cell BRf 0).trans rfl
            have y1 := (blk_cell BRf 1).trans rfl
            refine bodyPost_ret (v := .tuple #[.agg #[.int .i64 s1, .int .i64 s2], .int .i64 0]) ?_ rfl ⟨rfl, below_set (below_set (below_step HB6.out HK.out) (by omega)) (by omega)⟩
            simp [results, Tryd.f20, go_sem, y0, y1]
  · have HE : Aside0 (severalL l l0 d known = ((0, 0), 1)) := ⟨by rw [severalL, if_neg hall]⟩
    rw [HE.out]
    clear HE
    by_cases hb1 : validL l = true
    · rw [hb1] at HVa
      by_cases hb2 : stretchB d.f0 d.f1 = true
      · rw [hb2] at HSt
        by_cases hb3 : readingsL l0 = true
        · have hb4 : inB known 0 36524 = false := by rw [hb1, hb2, hb3] at hall; simpa using hall
          rw [hb3] at HRd
          rw [hb4] at HW
          clear hall hb1 hb2 hb3 hb4
          go_enter Tryd.func20, Tryd.ntmps20
          go_wp2_with (first
        | (go_at_call 15; (with_reducible refine (HVa.out _ (Kd.C_below HL0.out HB.out)).mono ?_); rintro e w1 ⟨rfl, hb⟩; replace HB := Aside0.mk (below_step HB.out hb); replace BD := Aside0.mk (blk_below BD.out hb); replace BR := Aside0.mk (blk_below BR.out hb); have d0 : w1.cell? ⟨w.heap.size, 0, none⟩ = some (.int .i64 d.f0) := (blk_cell BD.out 0).trans rfl; have d1 : w1.cell? ⟨w.heap.size, 1, none⟩ = some (.int .i64 d.f1) := (blk_cell BD.out 1).trans rfl; have q0 : w1.cell? ⟨w.heap.size + 1, 0, none⟩ = some (.int .i64 0) := (blk_cell BR.out 0).trans rfl; have q1 : w1.cell? ⟨w.heap.size + 1, 1, none⟩ = some (.int .i64 0) := (blk_cell BR.out 1).trans rfl; have qf0 := blk_frozen BR.out 0; have qf1 := blk_frozen BR.out 1; clear hb)
        | (go_at_call 36; (with_reducible refine (meter_stretch.calls d.f0 d.f1 true _ HSt.out).mono ?_); rintro e w2 ⟨rfl, hb⟩; replace HB := Aside0.mk (below_step HB.out hb); replace BD := Aside0.mk (blk_below BD.out hb); replace BR := Aside0.mk (blk_below BR.out hb); have d0 : w2.cell? ⟨w.heap.size, 0, none⟩ = some (.int .i64 d.f0) := (blk_cell BD.out 0).trans rfl; have d1 : w2.cell? ⟨w.heap.size, 1, none⟩ = some (.int .i64 d.f1) := (blk_cell BD.out 1).trans rfl; have q0 : w2.cell? ⟨w.heap.size + 1, 0, none⟩ = some (.int .i64 0) := (blk_cell BR.out 0).trans rfl; have q1 : w2.cell? ⟨w.heap.size + 1, 1, none⟩ = some (.int .i64 0) := (blk_cell BR.out 1).trans rfl; have qf0 := blk_frozen BR.out 0; have qf1 := blk_frozen BR.out 1; clear hb)
        | (go_at_call 27; (with_reducible refine (meter_readings.calls A0 c0 l0 true _ ?s1 HC0.out HRd.out).mono ?_); (case s1 => exact Kd.C_below HR0.out HB.out); rintro e w3 ⟨rfl, hb⟩; replace HB := Aside0.mk (below_step HB.out hb); replace BD := Aside0.mk (blk_below BD.out hb); replace BR := Aside0.mk (blk_below BR.out hb); have d0 : w3.cell? ⟨w.heap.size, 0, none⟩ = some (.int .i64 d.f0) := (blk_cell BD.out 0).trans rfl; have d1 : w3.cell? ⟨w.heap.size, 1, none⟩ = some (.int .i64 d.f1) := (blk_cell BD.out 1).trans rfl; have q0 : w3.cell? ⟨w.heap.size + 1, 0, none⟩ = some (.int .i64 0) := (blk_cell BR.out 0).trans rfl; have q1 : w3.cell? ⟨w.heap.size + 1, 1, none⟩ = some (.int .i64 0) := (blk_cell BR.out 1).trans rfl; have qf0 := blk_frozen BR.out 0; have qf1 := blk_frozen BR.out 1; clear hb)
        | (go_at_call 28; (with_reducible refine (meter_within.calls known 0 36524 false _ HW.out).mono ?_); rintro e w4 ⟨rfl, hd⟩; have hb := hd.below; clear hd; replace HB := Aside0.mk (below_step HB.out hb); replace BD := Aside0.mk (blk_below BD.out hb); replace BR := Aside0.mk (blk_below BR.out hb); have d0 : w4.cell? ⟨w.heap.size, 0, none⟩ = some (.int .i64 d.f0) := (blk_cell BD.out 0).trans rfl; have d1 : w4.cell? ⟨w.heap.size, 1, none⟩ = some (.int .i64 d.f1) := (blk_cell BD.out 1).trans rfl; have q0 : w4.cell? ⟨w.heap.size + 1, 0, none⟩ = some (.int .i64 0) := (blk_cell BR.out 0).trans rfl; have q1 : w4.cell? ⟨w.heap.size + 1, 1, none⟩ = some (.int .i64 0) := (blk_cell BR.out 1).trans rfl; have qf0 := blk_frozen BR.out 0; have qf1 := blk_frozen BR.out 1; clear hb))
          have BRf := blk_put (blk_put BR.out 0 (.int .i64 0) rfl) 1 (.int .i64 0) rfl
          have y0 := (blk_cell BRf 0).trans rfl
          have y1 := (blk_cell BRf 1).trans rfl
          refine bodyPost_ret (v := .tuple #[.agg #[.int .i64 0, .int .i64 0], .int .i64 1]) ?_ rfl ⟨rfl, below_set (below_set HB.out (by omega)) (by omega)⟩
          simp [results, Tryd.f20, go_sem, y0, y1]
        · rw [Bool.not_eq_true] at hb3
          rw [hb3] at HRd
          clear hall hb1 hb2 hb3
          go_enter Tryd.func20, Tryd.ntmps20
          go_wp2_with (first
        | (go_at_call 15; (with_reducible refine (HVa.out _ (Kd.C_below HL0.out HB.out)).mono ?_); rintro e w1 ⟨rfl, hb⟩; replace HB := Aside0.mk (below_step HB.out hb); replace BD := Aside0.mk (blk_below BD.out hb); replace BR := Aside0.mk (blk_below BR.out hb); have d0 : w1.cell? ⟨w.heap.size, 0, none⟩ = some (.int .i64 d.f0) := (blk_cell BD.out 0).trans rfl; have d1 : w1.cell? ⟨w.heap.size, 1, none⟩ = some (.int .i64 d.f1) := (blk_cell BD.out 1).trans rfl; have q0 : w1.cell? ⟨w.heap.size + 1, 0, none⟩ = some (.int .i64 0) := (blk_cell BR.out 0).trans rfl; have q1 : w1.cell? ⟨w.heap.size + 1, 1, none⟩ = some (.int .i64 0) := (blk_cell BR.out 1).trans rfl; have qf0 := blk_frozen BR.out 0; have qf1 := blk_frozen BR.out 1; clear hb)
        | (go_at_call 36; (with_reducible refine (meter_stretch.calls d.f0 d.f1 true _ HSt.out).mono ?_); rintro e w2 ⟨rfl, hb⟩; replace HB := Aside0.mk (below_step HB.out hb); replace BD := Aside0.mk (blk_below BD.out hb); replace BR := Aside0.mk (blk_below BR.out hb); have d0 : w2.cell? ⟨w.heap.size, 0, none⟩ = some (.int .i64 d.f0) := (blk_cell BD.out 0).trans rfl; have d1 : w2.cell? ⟨w.heap.size, 1, none⟩ = some (.int .i64 d.f1) := (blk_cell BD.out 1).trans rfl; have q0 : w2.cell? ⟨w.heap.size + 1, 0, none⟩ = some (.int .i64 0) := (blk_cell BR.out 0).trans rfl; have q1 : w2.cell? ⟨w.heap.size + 1, 1, none⟩ = some (.int .i64 0) := (blk_cell BR.out 1).trans rfl; have qf0 := blk_frozen BR.out 0; have qf1 := blk_frozen BR.out 1; clear hb)
        | (go_at_call 27; (with_reducible refine (meter_readings.calls A0 c0 l0 false _ ?s1 HC0.out HRd.out).mono ?_); (case s1 => exact Kd.C_below HR0.out HB.out); rintro e w3 ⟨rfl, hb⟩; replace HB := Aside0.mk (below_step HB.out hb); replace BD := Aside0.mk (blk_below BD.out hb); replace BR := Aside0.mk (blk_below BR.out hb); have d0 : w3.cell? ⟨w.heap.size, 0, none⟩ = some (.int .i64 d.f0) := (blk_cell BD.out 0).trans rfl; have d1 : w3.cell? ⟨w.heap.size, 1, none⟩ = some (.int .i64 d.f1) := (blk_cell BD.out 1).trans rfl; have q0 : w3.cell? ⟨w.heap.size + 1, 0, none⟩ = some (.int .i64 0) := (blk_cell BR.out 0).trans rfl; have q1 : w3.cell? ⟨w.heap.size + 1, 1, none⟩ = some (.int .i64 0) := (blk_cell BR.out 1).trans rfl; have qf0 := blk_frozen BR.out 0; have qf1 := blk_frozen BR.out 1; clear hb))
          have BRf := blk_put (blk_put BR.out 0 (.int .i64 0) rfl) 1 (.int .i64 0) rfl
          have y0 := (blk_cell BRf 0).trans rfl
          have y1 := (blk_cell BRf 1).trans rfl
          refine bodyPost_ret (v := .tuple #[.agg #[.int .i64 0, .int .i64 0], .int .i64 1]) ?_ rfl ⟨rfl, below_set (below_set HB.out (by omega)) (by omega)⟩
          simp [results, Tryd.f20, go_sem, y0, y1]
      · rw [Bool.not_eq_true] at hb2
        rw [hb2] at HSt
        clear hall hb1 hb2
        go_enter Tryd.func20, Tryd.ntmps20
        go_wp2_with (first
        | (go_at_call 15; (with_reducible refine (HVa.out _ (Kd.C_below HL0.out HB.out)).mono ?_); rintro e w1 ⟨rfl, hb⟩; replace HB := Aside0.mk (below_step HB.out hb); replace BD := Aside0.mk (blk_below BD.out hb); replace BR := Aside0.mk (blk_below BR.out hb); have d0 : w1.cell? ⟨w.heap.size, 0, none⟩ = some (.int .i64 d.f0) := (blk_cell BD.out 0).trans rfl; have d1 : w1.cell? ⟨w.heap.size, 1, none⟩ = some (.int .i64 d.f1) := (blk_cell BD.out 1).trans rfl; have q0 : w1.cell? ⟨w.heap.size + 1, 0, none⟩ = some (.int .i64 0) := (blk_cell BR.out 0).trans rfl; have q1 : w1.cell? ⟨w.heap.size + 1, 1, none⟩ = some (.int .i64 0) := (blk_cell BR.out 1).trans rfl; have qf0 := blk_frozen BR.out 0; have qf1 := blk_frozen BR.out 1; clear hb)
        | (go_at_call 36; (with_reducible refine (meter_stretch.calls d.f0 d.f1 false _ HSt.out).mono ?_); rintro e w2 ⟨rfl, hb⟩; replace HB := Aside0.mk (below_step HB.out hb); replace BD := Aside0.mk (blk_below BD.out hb); replace BR := Aside0.mk (blk_below BR.out hb); have d0 : w2.cell? ⟨w.heap.size, 0, none⟩ = some (.int .i64 d.f0) := (blk_cell BD.out 0).trans rfl; have d1 : w2.cell? ⟨w.heap.size, 1, none⟩ = some (.int .i64 d.f1) := (blk_cell BD.out 1).trans rfl; have q0 : w2.cell? ⟨w.heap.size + 1, 0, none⟩ = some (.int .i64 0) := (blk_cell BR.out 0).trans rfl; have q1 : w2.cell? ⟨w.heap.size + 1, 1, none⟩ = some (.int .i64 0) := (blk_cell BR.out 1).trans rfl; have qf0 := blk_frozen BR.out 0; have qf1 := blk_frozen BR.out 1; clear hb))
        have BRf := blk_put (blk_put BR.out 0 (.int .i64 0) rfl) 1 (.int .i64 0) rfl
        have y0 := (blk_cell BRf 0).trans rfl
        have y1 := (blk_cell BRf 1).trans rfl
        refine bodyPost_ret (v := .tuple #[.agg #[.int .i64 0, .int .i64 0], .int .i64 1]) ?_ rfl ⟨rfl, below_set (below_set HB.out (by omega)) (by omega)⟩
        simp [results, Tryd.f20, go_sem, y0, y1]
    · rw [Bool.not_eq_true] at hb1
      rw [hb1] at HVa
      clear hall hb1
      go_enter Tryd.func20, Tryd.ntmps20
      go_wp2_with (first
        | (go_at_call 15; (with_reducible refine (HVa.out _ (Kd.C_below HL0.out HB.out)).mono ?_); rintro e w1 ⟨rfl, hb⟩; replace HB := Aside0.mk (below_step HB.out hb); replace BD := Aside0.mk (blk_below BD.out hb); replace BR := Aside0.mk (blk_below BR.out hb); have d0 : w1.cell? ⟨w.heap.size, 0, none⟩ = some (.int .i64 d.f0) := (blk_cell BD.out 0).trans rfl; have d1 : w1.cell? ⟨w.heap.size, 1, none⟩ = some (.int .i64 d.f1) := (blk_cell BD.out 1).trans rfl; have q0 : w1.cell? ⟨w.heap.size + 1, 0, none⟩ = some (.int .i64 0) := (blk_cell BR.out 0).trans rfl; have q1 : w1.cell? ⟨w.heap.size + 1, 1, none⟩ = some (.int .i64 0) := (blk_cell BR.out 1).trans rfl; have qf0 := blk_frozen BR.out 0; have qf1 := blk_frozen BR.out 1; clear hb))
      have BRf := blk_put (blk_put BR.out 0 (.int .i64 0) rfl) 1 (.int .i64 0) rfl
      have y0 := (blk_cell BRf 0).trans rfl
      have y1 := (blk_cell BRf 1).trans rfl
      refine bodyPost_ret (v := .tuple #[.agg #[.int .i64 0, .int .i64 0], .int .i64 1]) ?_ rfl ⟨rfl, below_set (below_set HB.out (by omega)) (by omega)⟩
      simp [results, Tryd.f20, go_sem, y0, y1]
end Go.Proofs.YtknfkibnocfjiaaDoor.P
