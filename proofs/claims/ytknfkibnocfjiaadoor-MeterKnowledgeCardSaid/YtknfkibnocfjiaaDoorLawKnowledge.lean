/- P27.8, the walk of the law MeterKnowledge: for all inputs it returns true. -/
import Derived.Test.YtknfkibnocfjiaaDoorLawSame
import Derived.Test.YtknfkibnocfjiaaDoorMPure3
namespace Go.Proofs.YtknfkibnocfjiaaDoor.P
open Go.RowKit Go.Proofs.YtknfkibnocfjiaaDoorW.PrintWords Go.Proofs.YtknfkibnocfjiaaDoorW.PrintLast Go.Proofs.YtknfkibnocfjiaaDoorW.PrintMore Go.Proofs.YtknfkibnocfjiaaDoor.M
set_option linter.unusedVariables false
set_option linter.unusedSimpArgs false

theorem filter_take {l : List S43} {p : S43 → Bool} {i : Nat} (h : i < l.length) : (l.take (i + 1)).filter p = (l.take i).filter p ++ (if p (rd_T43 l (i : Int)) = true then [rd_T43 l (i : Int)] else []) := by
  rw [take43_snoc h, List.filter_append]
  congr 1
  by_cases hp : p (rd_T43 l (i : Int)) = true
  · rw [if_pos hp]; simp [hp]
  · rw [if_neg hp]; simp [hp]

set_option maxHeartbeats 32000000 in
set_option maxRecDepth 100000 in
theorem MeterKnowledge_calls (m : S25) (A0 : Option Addr) (c0 : Nat) (l0 : List S43) (d : S23) (known : Int) (w : World) (hr0 : Kd.C k43 w A0 l0.length l0) (hc0 : l0.length ≤ c0)
    (wm : wfM m) (wl : l0.length ≤ maxLen ∧ ∀ x ∈ l0, wfR x) (ws : wfSpan d) (wk : (Lit.int .i64 known).wf = true) (hg : Gl w) :
    Calls Tryd.prog 10 #[.agg #[.int .i64 m.f0, .int .i64 m.f1, .int .i64 m.f2, .int .i64 m.f3, .int .i64 m.f4.f0, .int .i64 m.f4.f1], .slice A0 l0.length c0, .agg #[.int .i64 d.f0, .int .i64 d.f1], .int .i64 known] w fun e w' => e = .returned (.bool true) ∧ Below w.heap.size w w' := by
  clear wm wl ws wk
  have hu43 := Tryd.underlying43
  have hu25 := Tryd.underlying25
  have hu23 := Tryd.underlying23
  have hu36 := Tryd.underlying36
  have HR0 := Aside0.mk hr0
  have HC0 := Aside0.mk hc0
  have HGl := Aside0.mk hg
  have HB := Aside0.mk (below_alloc (below_alloc (Below.refl w.heap.size w) (.cells #[.int .i64 m.f0, .int .i64 m.f1, .int .i64 m.f2, .int .i64 m.f3, .int .i64 m.f4.f0, .int .i64 m.f4.f1] 25)) (.cells #[.int .i64 d.f0, .int .i64 d.f1] 23))
  have BM := Aside0.mk (blk_alloc (blk_new w (.cells #[.int .i64 m.f0, .int .i64 m.f1, .int .i64 m.f2, .int .i64 m.f3, .int .i64 m.f4.f0, .int .i64 m.f4.f1] 25)) (.cells #[.int .i64 d.f0, .int .i64 d.f1] 23))
  have BD := Aside0.mk (blk_p1 w (.cells #[.int .i64 m.f0, .int .i64 m.f1, .int .i64 m.f2, .int .i64 m.f3, .int .i64 m.f4.f0, .int .i64 m.f4.f1] 25) (.cells #[.int .i64 d.f0, .int .i64 d.f1] 23))
  clear hr0 hc0 hg
  by_cases hf : l0.length ≤ 60
  · have HF : Aside0 (decide (l0.length ≤ 60) = true) := ⟨decide_eq_true hf⟩
    by_cases hrd : readingsL l0 = true
    · have HRd := Aside0.mk hrd
      have HCa := Aside0.mk (fun W h1 h2 => meter_Clean_calls m A0 c0 l0 known W h1 HC0.out h2)
      have HBa := Aside0.mk (fun W h1 h2 => meter_Bounds_calls m A0 c0 l0 d known W h1 HC0.out h2)
      have HKc := Aside0.mk (clean_known (m := m) (known := known) hrd)
      have HKb := Aside0.mk (bounds_known (m := m) (known := known) (d := d) hrd)
      clear hrd
      go_enter Tryd.func10, Tryd.ntmps10
      go_upto_region 4 with (first
        | (go_at_call 11; (with_reducible refine (head_calls _ (HGl.out.below HB.out)).mono ?_); rintro e w1 ⟨rfl, hb⟩; replace HB := Aside0.mk (below_step HB.out hb); replace BM := Aside0.mk (blk_below BM.out hb); replace BD := Aside0.mk (blk_below BD.out hb); have z0 : w1.cell? ⟨w.heap.size, 0, none⟩ = some (.int .i64 m.f0) := (blk_cell BM.out 0).trans rfl; have z1 : w1.cell? ⟨w.heap.size, 1, none⟩ = some (.int .i64 m.f1) := (blk_cell BM.out 1).trans rfl; have z2 : w1.cell? ⟨w.heap.size, 2, none⟩ = some (.int .i64 m.f2) := (blk_cell BM.out 2).trans rfl; have z3 : w1.cell? ⟨w.heap.size, 3, none⟩ = some (.int .i64 m.f3) := (blk_cell BM.out 3).trans rfl; have z4 : w1.cell? ⟨w.heap.size, 4, none⟩ = some (.int .i64 m.f4.f0) := (blk_cell BM.out 4).trans rfl; have z5 : w1.cell? ⟨w.heap.size, 5, none⟩ = some (.int .i64 m.f4.f1) := (blk_cell BM.out 5).trans rfl; have d0 : w1.cell? ⟨w.heap.size + 1, 0, none⟩ = some (.int .i64 d.f0) := (blk_cell BD.out 0).trans rfl; have d1 : w1.cell? ⟨w.heap.size + 1, 1, none⟩ = some (.int .i64 d.f1) := (blk_cell BD.out 1).trans rfl; clear hb)
        | (go_at_call 12; (with_reducible refine (few0_calls A0 c0 l0 true HF.out _ (Kd.C_below HR0.out HB.out) HC0.out).mono ?_); rintro e w2 ⟨rfl, hb⟩; replace HB := Aside0.mk (below_step HB.out hb); replace BM := Aside0.mk (blk_below BM.out hb); replace BD := Aside0.mk (blk_below BD.out hb); have z0 : w2.cell? ⟨w.heap.size, 0, none⟩ = some (.int .i64 m.f0) := (blk_cell BM.out 0).trans rfl; have z1 : w2.cell? ⟨w.heap.size, 1, none⟩ = some (.int .i64 m.f1) := (blk_cell BM.out 1).trans rfl; have z2 : w2.cell? ⟨w.heap.size, 2, none⟩ = some (.int .i64 m.f2) := (blk_cell BM.out 2).trans rfl; have z3 : w2.cell? ⟨w.heap.size, 3, none⟩ = some (.int .i64 m.f3) := (blk_cell BM.out 3).trans rfl; have z4 : w2.cell? ⟨w.heap.size, 4, none⟩ = some (.int .i64 m.f4.f0) := (blk_cell BM.out 4).trans rfl; have z5 : w2.cell? ⟨w.heap.size, 5, none⟩ = some (.int .i64 m.f4.f1) := (blk_cell BM.out 5).trans rfl; have d0 : w2.cell? ⟨w.heap.size + 1, 0, none⟩ = some (.int .i64 d.f0) := (blk_cell BD.out 0).trans rfl; have d1 : w2.cell? ⟨w.heap.size + 1, 1, none⟩ = some (.int .i64 d.f1) := (blk_cell BD.out 1).trans rfl; clear hb)
        | (go_at_call 25; (with_reducible refine (rreadings_calls A0 c0 l0 true HRd.out _ (Kd.C_below HR0.out HB.out) HC0.out).mono ?_); rintro e w3 ⟨rfl, hb⟩; replace HB := Aside0.mk (below_step HB.out hb); replace BM := Aside0.mk (blk_below BM.out hb); replace BD := Aside0.mk (blk_below BD.out hb); have z0 : w3.cell? ⟨w.heap.size, 0, none⟩ = some (.int .i64 m.f0) := (blk_cell BM.out 0).trans rfl; have z1 : w3.cell? ⟨w.heap.size, 1, none⟩ = some (.int .i64 m.f1) := (blk_cell BM.out 1).trans rfl; have z2 : w3.cell? ⟨w.heap.size, 2, none⟩ = some (.int .i64 m.f2) := (blk_cell BM.out 2).trans rfl; have z3 : w3.cell? ⟨w.heap.size, 3, none⟩ = some (.int .i64 m.f3) := (blk_cell BM.out 3).trans rfl; have z4 : w3.cell? ⟨w.heap.size, 4, none⟩ = some (.int .i64 m.f4.f0) := (blk_cell BM.out 4).trans rfl; have z5 : w3.cell? ⟨w.heap.size, 5, none⟩ = some (.int .i64 m.f4.f1) := (blk_cell BM.out 5).trans rfl; have d0 : w3.cell? ⟨w.heap.size + 1, 0, none⟩ = some (.int .i64 d.f0) := (blk_cell BD.out 0).trans rfl; have d1 : w3.cell? ⟨w.heap.size + 1, 1, none⟩ = some (.int .i64 d.f1) := (blk_cell BD.out 1).trans rfl; clear hb))
      clear z0 z1 z2 z3 z4 z5 d0 d1
      go_wp2
      go_loopg [10, 33] l0.length (fun gk v10 v33 w' => ∃ i : Nat, v33 = .int .i64 i ∧ Aside0 (i ≤ l0.length ∧ gk = l0.length - i) ∧ Aside0 (Kd.R k43 43 w' w3.heap.size (fun _ => True) v10 ((l0.take i).filter fun r => decide (r.f3 ≤ known))) ∧ Aside0 (Below w3.heap.size w3 w'))
      case atStart => exact ⟨0, rfl, ⟨Nat.zero_le _, rfl⟩, ⟨by rw [List.take_zero]; exact Kd.R_nil _ _ _ _ _⟩, ⟨Below.refl _ _⟩⟩
      case round =>
        obtain ⟨i, rfl, HI, HO, HK⟩ := hrel
        have hi := HI.out.1
        by_cases hlt : i < l0.length
        · obtain ⟨xad, e, x0, x1, x2, x3⟩ := at_T43 HR0.out ((i : Nat) : Int) (by omega) (by omega)
          cases e
          simp only [Int.toNat_natCast] at x0 x1 x2 x3
          have HBr := Aside0.mk (below_step HB.out HK.out)
          replace x0 := cell_on HBr.out x0
          replace x1 := cell_on HBr.out x1
          replace x2 := cell_on HBr.out x2
          replace x3 := cell_on HBr.out x3
          have HT := Aside0.mk (filter_take (p := fun r => decide (r.f3 ≤ known)) hlt)
          have HLn : Aside0 (((l0.take i).filter fun r => decide (r.f3 ≤ known)).length ≤ 60) := ⟨Nat.le_trans (List.length_filter_le _ _) (by rw [List.length_take]; omega)⟩
          generalize hx : rd_T43 l0 (i : Int) = x at *
          clear hx
          generalize (l0.take i).filter (fun r => decide (r.f3 ≤ known)) = xs at *
          have hxl := HLn.out
          have HKa := Aside0.mk (below_alloc HK.out (.cells #[.int .i64 x.f0, .int .i64 x.f1, .int .i64 x.f2, .int .i64 x.f3] 43))
          have HOa := Aside0.mk (Kd.R_alloc HO.out (.cells #[.int .i64 x.f0, .int .i64 x.f1, .int .i64 x.f2, .int .i64 x.f3] 43))
          have hsa := HKa.out.size
          by_cases t1 : x.f3 ≤ known
          · have b1 : decide (x.f3 ≤ known) = true := decide_eq_true t1
            have HT2 : Aside0 ((l0.take (i + 1)).filter (fun r => decide (r.f3 ≤ known)) = xs ++ [x]) := ⟨by rw [HT.out, if_pos b1]⟩
            clear HT
            go_wp2_with (first
              | ((with_reducible refine gate_builtin (b := .append) (xs := #[.tmp 41, .tmp 43]) rfl ?_); at_builtin; refine Kd.R_append_rows k43 (w0 := w3) w3.heap.size rfl (.tmp 41) (.tmp 43) 27 43 (.agg #[(.int .i64 0), (.int .i64 0), (.int .i64 0), (.int .i64 0)]) 32 rfl Tryd.underlying27 info43 rfl (by decide) (by omega) u10 xs [x] _ 1 1 (fun _ => True) (fun _ => False) rfl rfl (Kd.R_alloc HOa.out _) (k43_one x (blk_p1 wr _ _)) (fun y cs h => k43_KM _ _ y cs h) (fun _ h => h.elim) (fun _ _ => trivial) (below_alloc HKa.out _) (by have := HKa.out.size; simp at this ⊢; omega) (by omega) ?_; intro v2 w2' ho hb hg hat; have HO2 := Aside0.mk ho; have HK2 := Aside0.mk hb; clear ho hb hg hat))
            go_roundg (l0.length - (i + 1))
            case measure => have := HI.out; omega
            case rel => exact ⟨i + 1, by go_num, ⟨by omega, rfl⟩, ⟨by rw [HT2.out]; exact HO2.out⟩, HK2⟩
          · have b1 : decide (x.f3 ≤ known) = false := decide_eq_false t1
            have HT2 : Aside0 ((l0.take (i + 1)).filter (fun r => decide (r.f3 ≤ known)) = xs) := ⟨by rw [HT.out, if_neg (by rw [b1]; decide), List.append_nil]⟩
            clear HT
            go_wp2
            go_roundg (l0.length - (i + 1))
            case measure => have := HI.out; omega
            case rel => exact ⟨i + 1, by go_num, ⟨by omega, rfl⟩, ⟨by rw [HT2.out]; exact HOa.out⟩, HKa⟩
        · obtain rfl : i = l0.length := by omega
          rw [List.take_length] at HO
          obtain ⟨Ao, co, rfl, hlo, hro⟩ := Kd.R_reads HO.out
          have HRo := Aside0.mk hro
          have HLo := Aside0.mk hlo
          clear hlo hro HO
          replace HB := Aside0.mk (below_step HB.out HK.out)
          replace BM := Aside0.mk (blk_below BM.out HK.out)
          replace BD := Aside0.mk (blk_below BD.out HK.out)
          clear HK HI
          generalize l0.filter (fun r => decide (r.f3 ≤ known)) = own at *
          have HCb := Aside0.mk (fun W h1 h2 => meter_Clean_calls m Ao co own known W h1 HLo.out h2)
          have HBb := Aside0.mk (fun W h1 h2 => meter_Bounds_calls m Ao co own d known W h1 HLo.out h2)
          rw [HKc.out] at HCb
          rw [HKb.out] at HBb
          unfold RowPost43 at HCa HCb
          unfold BoundsPost at HBa HBb
          clear HKc HKb
          generalize (cleanL m l0 known).1 = c at *
          generalize (cleanL m l0 known).2 = ec at *
          generalize (boundsL m l0 d known).1.1 = b1 at *
          generalize (boundsL m l0 d known).1.2 = b2 at *
          generalize (boundsL m l0 d known).2 = eb at *
          have z0 : wr.cell? ⟨w.heap.size, 0, none⟩ = some (.int .i64 m.f0) := (blk_cell BM.out 0).trans rfl
          have z1 : wr.cell? ⟨w.heap.size, 1, none⟩ = some (.int .i64 m.f1) := (blk_cell BM.out 1).trans rfl
          have z2 : wr.cell? ⟨w.heap.size, 2, none⟩ = some (.int .i64 m.f2) := (blk_cell BM.out 2).trans rfl
          have z3 : wr.cell? ⟨w.heap.size, 3, none⟩ = some (.int .i64 m.f3) := (blk_cell BM.out 3).trans rfl
          have z4 : wr.cell? ⟨w.heap.size, 4, none⟩ = some (.int .i64 m.f4.f0) := (blk_cell BM.out 4).trans rfl
          have z5 : wr.cell? ⟨w.heap.size, 5, none⟩ = some (.int .i64 m.f4.f1) := (blk_cell BM.out 5).trans rfl
          have d0 : wr.cell? ⟨w.heap.size + 1, 0, none⟩ = some (.int .i64 d.f0) := (blk_cell BD.out 0).trans rfl
          have d1 : wr.cell? ⟨w.heap.size + 1, 1, none⟩ = some (.int .i64 d.f1) := (blk_cell BD.out 1).trans rfl
          go_wp2_with (first
        | (go_at_call 13; (with_reducible refine (HCa.out _ (Kd.C_below HR0.out HB.out) (HGl.out.below HB.out)).mono ?_); rintro e w4 ⟨v4, rfl, hR, hb⟩; obtain ⟨A4, c4, rfl, hl4, hr4⟩ := Kd.R_reads hR; have HR4 := Aside0.mk hr4; have HL4 := Aside0.mk hl4; replace HRo := Aside0.mk (Kd.C_below HRo.out hb); replace HB := Aside0.mk (below_step HB.out hb); replace BM := Aside0.mk (blk_below BM.out hb); replace BD := Aside0.mk (blk_below BD.out hb); have z0 : w4.cell? ⟨w.heap.size, 0, none⟩ = some (.int .i64 m.f0) := (blk_cell BM.out 0).trans rfl; have z1 : w4.cell? ⟨w.heap.size, 1, none⟩ = some (.int .i64 m.f1) := (blk_cell BM.out 1).trans rfl; have z2 : w4.cell? ⟨w.heap.size, 2, none⟩ = some (.int .i64 m.f2) := (blk_cell BM.out 2).trans rfl; have z3 : w4.cell? ⟨w.heap.size, 3, none⟩ = some (.int .i64 m.f3) := (blk_cell BM.out 3).trans rfl; have z4 : w4.cell? ⟨w.heap.size, 4, none⟩ = some (.int .i64 m.f4.f0) := (blk_cell BM.out 4).trans rfl; have z5 : w4.cell? ⟨w.heap.size, 5, none⟩ = some (.int .i64 m.f4.f1) := (blk_cell BM.out 5).trans rfl; have d0 : w4.cell? ⟨w.heap.size + 1, 0, none⟩ = some (.int .i64 d.f0) := (blk_cell BD.out 0).trans rfl; have d1 : w4.cell? ⟨w.heap.size + 1, 1, none⟩ = some (.int .i64 d.f1) := (blk_cell BD.out 1).trans rfl; clear hR hl4 hr4 hb)
        | (go_at_call 13; (with_reducible refine (HCb.out _ HRo.out (HGl.out.below HB.out)).mono ?_); rintro e w5 ⟨v5, rfl, hR, hb⟩; obtain ⟨A5, c5, rfl, hl5, hr5⟩ := Kd.R_reads hR; have HR5 := Aside0.mk hr5; have HL5 := Aside0.mk hl5; replace HRo := Aside0.mk (Kd.C_below HRo.out hb); replace HR4 := Aside0.mk (Kd.C_below HR4.out hb); replace HB := Aside0.mk (below_step HB.out hb); replace BM := Aside0.mk (blk_below BM.out hb); replace BD := Aside0.mk (blk_below BD.out hb); have z0 : w5.cell? ⟨w.heap.size, 0, none⟩ = some (.int .i64 m.f0) := (blk_cell BM.out 0).trans rfl; have z1 : w5.cell? ⟨w.heap.size, 1, none⟩ = some (.int .i64 m.f1) := (blk_cell BM.out 1).trans rfl; have z2 : w5.cell? ⟨w.heap.size, 2, none⟩ = some (.int .i64 m.f2) := (blk_cell BM.out 2).trans rfl; have z3 : w5.cell? ⟨w.heap.size, 3, none⟩ = some (.int .i64 m.f3) := (blk_cell BM.out 3).trans rfl; have z4 : w5.cell? ⟨w.heap.size, 4, none⟩ = some (.int .i64 m.f4.f0) := (blk_cell BM.out 4).trans rfl; have z5 : w5.cell? ⟨w.heap.size, 5, none⟩ = some (.int .i64 m.f4.f1) := (blk_cell BM.out 5).trans rfl; have d0 : w5.cell? ⟨w.heap.size + 1, 0, none⟩ = some (.int .i64 d.f0) := (blk_cell BD.out 0).trans rfl; have d1 : w5.cell? ⟨w.heap.size + 1, 1, none⟩ = some (.int .i64 d.f1) := (blk_cell BD.out 1).trans rfl; clear hR hl5 hr5 hb)
        | (go_at_call 18; (with_reducible refine (HBa.out _ (Kd.C_below HR0.out HB.out) (HGl.out.below HB.out)).mono ?_); rintro e w6 ⟨rfl, hb⟩; replace HRo := Aside0.mk (Kd.C_alloc (Kd.C_below HRo.out hb) (.cells #[.int .i64 b1, .int .i64 b2] 36)); replace HR4 := Aside0.mk (Kd.C_alloc (Kd.C_below HR4.out hb) (.cells #[.int .i64 b1, .int .i64 b2] 36)); replace HR5 := Aside0.mk (Kd.C_alloc (Kd.C_below HR5.out hb) (.cells #[.int .i64 b1, .int .i64 b2] 36)); have BX := Aside0.mk (blk_new w6 (.cells #[.int .i64 b1, .int .i64 b2] 36)); replace HB := Aside0.mk (below_alloc (below_step HB.out hb) (.cells #[.int .i64 b1, .int .i64 b2] 36)); replace BM := Aside0.mk (blk_alloc (blk_below BM.out hb) (.cells #[.int .i64 b1, .int .i64 b2] 36)); replace BD := Aside0.mk (blk_alloc (blk_below BD.out hb) (.cells #[.int .i64 b1, .int .i64 b2] 36)); have z0 : (w6.alloc (.cells #[.int .i64 b1, .int .i64 b2] 36)).cell? ⟨w.heap.size, 0, none⟩ = some (.int .i64 m.f0) := (blk_cell BM.out 0).trans rfl; have z1 : (w6.alloc (.cells #[.int .i64 b1, .int .i64 b2] 36)).cell? ⟨w.heap.size, 1, none⟩ = some (.int .i64 m.f1) := (blk_cell BM.out 1).trans rfl; have z2 : (w6.alloc (.cells #[.int .i64 b1, .int .i64 b2] 36)).cell? ⟨w.heap.size, 2, none⟩ = some (.int .i64 m.f2) := (blk_cell BM.out 2).trans rfl; have z3 : (w6.alloc (.cells #[.int .i64 b1, .int .i64 b2] 36)).cell? ⟨w.heap.size, 3, none⟩ = some (.int .i64 m.f3) := (blk_cell BM.out 3).trans rfl; have z4 : (w6.alloc (.cells #[.int .i64 b1, .int .i64 b2] 36)).cell? ⟨w.heap.size, 4, none⟩ = some (.int .i64 m.f4.f0) := (blk_cell BM.out 4).trans rfl; have z5 : (w6.alloc (.cells #[.int .i64 b1, .int .i64 b2] 36)).cell? ⟨w.heap.size, 5, none⟩ = some (.int .i64 m.f4.f1) := (blk_cell BM.out 5).trans rfl; have d0 : (w6.alloc (.cells #[.int .i64 b1, .int .i64 b2] 36)).cell? ⟨w.heap.size + 1, 0, none⟩ = some (.int .i64 d.f0) := (blk_cell BD.out 0).trans rfl; have d1 : (w6.alloc (.cells #[.int .i64 b1, .int .i64 b2] 36)).cell? ⟨w.heap.size + 1, 1, none⟩ = some (.int .i64 d.f1) := (blk_cell BD.out 1).trans rfl; clear hb)
        | (go_at_call 18; (with_reducible refine (HBb.out _ HRo.out (HGl.out.below HB.out)).mono ?_); rintro e w7 ⟨rfl, hb⟩; replace HR4 := Aside0.mk (Kd.C_alloc (Kd.C_below HR4.out hb) (.cells #[.int .i64 b1, .int .i64 b2] 36)); replace HR5 := Aside0.mk (Kd.C_alloc (Kd.C_below HR5.out hb) (.cells #[.int .i64 b1, .int .i64 b2] 36)); replace BX := Aside0.mk (blk_alloc (blk_below BX.out hb) (.cells #[.int .i64 b1, .int .i64 b2] 36)); have BY := Aside0.mk (blk_new w7 (.cells #[.int .i64 b1, .int .i64 b2] 36)); replace HB := Aside0.mk (below_alloc (below_step HB.out hb) (.cells #[.int .i64 b1, .int .i64 b2] 36)); clear hb)
        | (go_at_call 17; (with_reducible refine (rsame_calls A4 c4 A5 c5 c _ HR4.out HL4.out HR5.out HL5.out).mono ?_); rintro e w8 ⟨rfl, hb⟩; replace BX := Aside0.mk (blk_below BX.out hb); replace BY := Aside0.mk (blk_below BY.out hb); replace HB := Aside0.mk (below_step HB.out hb); have u0 : w8.cell? ⟨w6.heap.size, 0, none⟩ = some (.int .i64 b1) := (blk_cell BX.out 0).trans rfl; have v0 : w8.cell? ⟨w7.heap.size, 0, none⟩ = some (.int .i64 b1) := (blk_cell BY.out 0).trans rfl; have u1 : w8.cell? ⟨w6.heap.size, 1, none⟩ = some (.int .i64 b2) := (blk_cell BX.out 1).trans rfl; have v1 : w8.cell? ⟨w7.heap.size, 1, none⟩ = some (.int .i64 b2) := (blk_cell BY.out 1).trans rfl; clear hb))
          go_ret
          exact ⟨rfl, HB.out⟩
    · rw [Bool.not_eq_true] at hrd
      have HRd := Aside0.mk hrd
      clear hrd
      go_enter Tryd.func10, Tryd.ntmps10
      go_wp2_with (first
        | (go_at_call 11; (with_reducible refine (head_calls _ (HGl.out.below HB.out)).mono ?_); rintro e w1 ⟨rfl, hb⟩; replace HB := Aside0.mk (below_step HB.out hb); replace BM := Aside0.mk (blk_below BM.out hb); replace BD := Aside0.mk (blk_below BD.out hb); have z0 : w1.cell? ⟨w.heap.size, 0, none⟩ = some (.int .i64 m.f0) := (blk_cell BM.out 0).trans rfl; have z1 : w1.cell? ⟨w.heap.size, 1, none⟩ = some (.int .i64 m.f1) := (blk_cell BM.out 1).trans rfl; have z2 : w1.cell? ⟨w.heap.size, 2, none⟩ = some (.int .i64 m.f2) := (blk_cell BM.out 2).trans rfl; have z3 : w1.cell? ⟨w.heap.size, 3, none⟩ = some (.int .i64 m.f3) := (blk_cell BM.out 3).trans rfl; have z4 : w1.cell? ⟨w.heap.size, 4, none⟩ = some (.int .i64 m.f4.f0) := (blk_cell BM.out 4).trans rfl; have z5 : w1.cell? ⟨w.heap.size, 5, none⟩ = some (.int .i64 m.f4.f1) := (blk_cell BM.out 5).trans rfl; have d0 : w1.cell? ⟨w.heap.size + 1, 0, none⟩ = some (.int .i64 d.f0) := (blk_cell BD.out 0).trans rfl; have d1 : w1.cell? ⟨w.heap.size + 1, 1, none⟩ = some (.int .i64 d.f1) := (blk_cell BD.out 1).trans rfl; clear hb)
        | (go_at_call 12; (with_reducible refine (few0_calls A0 c0 l0 true HF.out _ (Kd.C_below HR0.out HB.out) HC0.out).mono ?_); rintro e w2 ⟨rfl, hb⟩; replace HB := Aside0.mk (below_step HB.out hb); replace BM := Aside0.mk (blk_below BM.out hb); replace BD := Aside0.mk (blk_below BD.out hb); have z0 : w2.cell? ⟨w.heap.size, 0, none⟩ = some (.int .i64 m.f0) := (blk_cell BM.out 0).trans rfl; have z1 : w2.cell? ⟨w.heap.size, 1, none⟩ = some (.int .i64 m.f1) := (blk_cell BM.out 1).trans rfl; have z2 : w2.cell? ⟨w.heap.size, 2, none⟩ = some (.int .i64 m.f2) := (blk_cell BM.out 2).trans rfl; have z3 : w2.cell? ⟨w.heap.size, 3, none⟩ = some (.int .i64 m.f3) := (blk_cell BM.out 3).trans rfl; have z4 : w2.cell? ⟨w.heap.size, 4, none⟩ = some (.int .i64 m.f4.f0) := (blk_cell BM.out 4).trans rfl; have z5 : w2.cell? ⟨w.heap.size, 5, none⟩ = some (.int .i64 m.f4.f1) := (blk_cell BM.out 5).trans rfl; have d0 : w2.cell? ⟨w.heap.size + 1, 0, none⟩ = some (.int .i64 d.f0) := (blk_cell BD.out 0).trans rfl; have d1 : w2.cell? ⟨w.heap.size + 1, 1, none⟩ = some (.int .i64 d.f1) := (blk_cell BD.out 1).trans rfl; clear hb)
        | (go_at_call 25; (with_reducible refine (rreadings_calls A0 c0 l0 false HRd.out _ (Kd.C_below HR0.out HB.out) HC0.out).mono ?_); rintro e w3 ⟨rfl, hb⟩; replace HB := Aside0.mk (below_step HB.out hb); replace BM := Aside0.mk (blk_below BM.out hb); replace BD := Aside0.mk (blk_below BD.out hb); have z0 : w3.cell? ⟨w.heap.size, 0, none⟩ = some (.int .i64 m.f0) := (blk_cell BM.out 0).trans rfl; have z1 : w3.cell? ⟨w.heap.size, 1, none⟩ = some (.int .i64 m.f1) := (blk_cell BM.out 1).trans rfl; have z2 : w3.cell? ⟨w.heap.size, 2, none⟩ = some (.int .i64 m.f2) := (blk_cell BM.out 2).trans rfl; have z3 : w3.cell? ⟨w.heap.size, 3, none⟩ = some (.int .i64 m.f3) := (blk_cell BM.out 3).trans rfl; have z4 : w3.cell? ⟨w.heap.size, 4, none⟩ = some (.int .i64 m.f4.f0) := (blk_cell BM.out 4).trans rfl; have z5 : w3.cell? ⟨w.heap.size, 5, none⟩ = some (.int .i64 m.f4.f1) := (blk_cell BM.out 5).trans rfl; have d0 : w3.cell? ⟨w.heap.size + 1, 0, none⟩ = some (.int .i64 d.f0) := (blk_cell BD.out 0).trans rfl; have d1 : w3.cell? ⟨w.heap.size + 1, 1, none⟩ = some (.int .i64 d.f1) := (blk_cell BD.out 1).trans rfl; clear hb))
      go_ret
      exact ⟨rfl, HB.out⟩
  · have HF : Aside0 (decide (l0.length ≤ 60) = false) := ⟨decide_eq_false hf⟩
    clear hf
    go_enter Tryd.func10, Tryd.ntmps10
    go_wp2_with (first
        | (go_at_call 11; (with_reducible refine (head_calls _ (HGl.out.below HB.out)).mono ?_); rintro e w1 ⟨rfl, hb⟩; replace HB := Aside0.mk (below_step HB.out hb); replace BM := Aside0.mk (blk_below BM.out hb); replace BD := Aside0.mk (blk_below BD.out hb); have z0 : w1.cell? ⟨w.heap.size, 0, none⟩ = some (.int .i64 m.f0) := (blk_cell BM.out 0).trans rfl; have z1 : w1.cell? ⟨w.heap.size, 1, none⟩ = some (.int .i64 m.f1) := (blk_cell BM.out 1).trans rfl; have z2 : w1.cell? ⟨w.heap.size, 2, none⟩ = some (.int .i64 m.f2) := (blk_cell BM.out 2).trans rfl; have z3 : w1.cell? ⟨w.heap.size, 3, none⟩ = some (.int .i64 m.f3) := (blk_cell BM.out 3).trans rfl; have z4 : w1.cell? ⟨w.heap.size, 4, none⟩ = some (.int .i64 m.f4.f0) := (blk_cell BM.out 4).trans rfl; have z5 : w1.cell? ⟨w.heap.size, 5, none⟩ = some (.int .i64 m.f4.f1) := (blk_cell BM.out 5).trans rfl; have d0 : w1.cell? ⟨w.heap.size + 1, 0, none⟩ = some (.int .i64 d.f0) := (blk_cell BD.out 0).trans rfl; have d1 : w1.cell? ⟨w.heap.size + 1, 1, none⟩ = some (.int .i64 d.f1) := (blk_cell BD.out 1).trans rfl; clear hb)
        | (go_at_call 12; (with_reducible refine (few0_calls A0 c0 l0 false HF.out _ (Kd.C_below HR0.out HB.out) HC0.out).mono ?_); rintro e w2 ⟨rfl, hb⟩; replace HB := Aside0.mk (below_step HB.out hb); replace BM := Aside0.mk (blk_below BM.out hb); replace BD := Aside0.mk (blk_below BD.out hb); have z0 : w2.cell? ⟨w.heap.size, 0, none⟩ = some (.int .i64 m.f0) := (blk_cell BM.out 0).trans rfl; have z1 : w2.cell? ⟨w.heap.size, 1, none⟩ = some (.int .i64 m.f1) := (blk_cell BM.out 1).trans rfl; have z2 : w2.cell? ⟨w.heap.size, 2, none⟩ = some (.int .i64 m.f2) := (blk_cell BM.out 2).trans rfl; have z3 : w2.cell? ⟨w.heap.size, 3, none⟩ = some (.int .i64 m.f3) := (blk_cell BM.out 3).trans rfl; have z4 : w2.cell? ⟨w.heap.size, 4, none⟩ = some (.int .i64 m.f4.f0) := (blk_cell BM.out 4).trans rfl; have z5 : w2.cell? ⟨w.heap.size, 5, none⟩ = some (.int .i64 m.f4.f1) := (blk_cell BM.out 5).trans rfl; have d0 : w2.cell? ⟨w.heap.size + 1, 0, none⟩ = some (.int .i64 d.f0) := (blk_cell BD.out 0).trans rfl; have d1 : w2.cell? ⟨w.heap.size + 1, 1, none⟩ = some (.int .i64 d.f1) := (blk_cell BD.out 1).trans rfl; clear hb))
    go_ret
    exact ⟨rfl, HB.out⟩
end Go.Proofs.YtknfkibnocfjiaaDoor.P
