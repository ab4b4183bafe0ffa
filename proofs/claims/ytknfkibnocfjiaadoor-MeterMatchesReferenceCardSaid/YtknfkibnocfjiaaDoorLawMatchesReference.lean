/- P27.1, the walk of the law MeterMatchesReference: for all inputs it returns true. -/
import Derived.Test.YtknfkibnocfjiaaDoorLawSame
import Derived.Test.YtknfkibnocfjiaaDoorGRSeveral
namespace Go.Proofs.YtknfkibnocfjiaaDoor.P
open Go.RowKit Go.Proofs.YtknfkibnocfjiaaDoorW.PrintWords Go.Proofs.YtknfkibnocfjiaaDoorW.PrintLast Go.Proofs.YtknfkibnocfjiaaDoorW.PrintMore Go.Proofs.YtknfkibnocfjiaaDoor.M
set_option linter.unusedVariables false
set_option linter.unusedSimpArgs false
/-- What stands in memory behind the entry of the law: the meter, the days. -/
structure RL (m : S25) (d : S23) (w W : World) : Prop where
  bM : W.heap[w.heap.size]? = some (.cells #[.int .i64 m.f0, .int .i64 m.f1, .int .i64 m.f2, .int .i64 m.f3, .int .i64 m.f4.f0, .int .i64 m.f4.f1] 25 (0, 0))
  bD : W.heap[w.heap.size + 1]? = some (.cells #[.int .i64 d.f0, .int .i64 d.f1] 23 (0, 0))
  hb : Below w.heap.size w W
theorem RL.below {m : S25} {d : S23} {w W W2 : World} (h : RL m d w W) (hb : Below W.heap.size W W2) : RL m d w W2 := ⟨blk_below h.bM hb, blk_below h.bD hb, below_step h.hb hb⟩
theorem RL.cells {m : S25} {d : S23} {w W : World} (h : RL m d w W) : W.cell? ⟨w.heap.size, 0, none⟩ = some (.int .i64 m.f0) ∧ W.cell? ⟨w.heap.size, 1, none⟩ = some (.int .i64 m.f1) ∧ W.cell? ⟨w.heap.size, 2, none⟩ = some (.int .i64 m.f2) ∧ W.cell? ⟨w.heap.size, 3, none⟩ = some (.int .i64 m.f3) ∧ W.cell? ⟨w.heap.size, 4, none⟩ = some (.int .i64 m.f4.f0) ∧ W.cell? ⟨w.heap.size, 5, none⟩ = some (.int .i64 m.f4.f1) ∧ W.cell? ⟨w.heap.size + 1, 0, none⟩ = some (.int .i64 d.f0) ∧ W.cell? ⟨w.heap.size + 1, 1, none⟩ = some (.int .i64 d.f1) := ⟨(blk_cell h.bM 0).trans rfl, (blk_cell h.bM 1).trans rfl, (blk_cell h.bM 2).trans rfl, (blk_cell h.bM 3).trans rfl, (blk_cell h.bM 4).trans rfl, (blk_cell h.bM 5).trans rfl, (blk_cell h.bD 0).trans rfl, (blk_cell h.bD 1).trans rfl⟩
theorem RL.start (m : S25) (d : S23) (w : World) : RL m d w ((w.alloc (.cells #[.int .i64 m.f0, .int .i64 m.f1, .int .i64 m.f2, .int .i64 m.f3, .int .i64 m.f4.f0, .int .i64 m.f4.f1] 25)).alloc (.cells #[.int .i64 d.f0, .int .i64 d.f1] 23)) := ⟨blk_alloc (blk_new w (.cells #[.int .i64 m.f0, .int .i64 m.f1, .int .i64 m.f2, .int .i64 m.f3, .int .i64 m.f4.f0, .int .i64 m.f4.f1] 25)) (.cells #[.int .i64 d.f0, .int .i64 d.f1] 23), blk_p1 w (.cells #[.int .i64 m.f0, .int .i64 m.f1, .int .i64 m.f2, .int .i64 m.f3, .int .i64 m.f4.f0, .int .i64 m.f4.f1] 25) (.cells #[.int .i64 d.f0, .int .i64 d.f1] 23), below_alloc (below_alloc (Below.refl _ _) _) _⟩
theorem RL.set {m : S25} {d : S23} {w W : World} (h : RL m d w W) {g : Nat} (hg : w.heap.size + 1 < g) (i : Nat) (v : Value) : RL m d w (W.setCell ⟨g, i, none⟩ v) :=
  ⟨blk_far h.bM (p := ⟨g, i, none⟩) (show w.heap.size ≠ g by omega) v, blk_far h.bD (p := ⟨g, i, none⟩) (show w.heap.size + 1 ≠ g by omega) v, below_set h.hb (by omega)⟩
set_option maxHeartbeats 32000000 in
set_option maxRecDepth 100000 in
theorem MeterMatchesReference_calls (m : S25) (AL : Option Addr) (cL : Nat) (l : List S25) (A0 : Option Addr) (c0 : Nat) (l0 : List S43) (d : S23) (known : Int) (w : World) (hl0 : Kd.C k25 w AL l.length l) (hcl : l.length ≤ cL) (hr0 : Kd.C k43 w A0 l0.length l0) (hc0 : l0.length ≤ c0)
    (wx : wfM m) (wm : l.length ≤ maxLen ∧ ∀ x ∈ l, wfM x) (wl : l0.length ≤ maxLen ∧ ∀ x ∈ l0, wfR x) (ws : wfSpan d) (wk : (Lit.int .i64 known).wf = true) (hg : Gl w) :
    Calls Tryd.prog 3 #[.agg #[.int .i64 m.f0, .int .i64 m.f1, .int .i64 m.f2, .int .i64 m.f3, .int .i64 m.f4.f0, .int .i64 m.f4.f1], .slice AL l.length cL, .slice A0 l0.length c0, .agg #[.int .i64 d.f0, .int .i64 d.f1], .int .i64 known] w fun e w' => e = .returned (.bool true) ∧ Below w.heap.size w w' := by
  have hln : l.length ≤ 9223372036854775807 := by have := wm.1; simp only [maxLen] at this; omega
  clear wx wm wl ws wk
  have hu43 := Tryd.underlying43
  have hu25 := Tryd.underlying25
  have hu23 := Tryd.underlying23
  have hu36 := Tryd.underlying36
  have HL0 := Aside0.mk hl0
  have HCL := Aside0.mk hcl
  have HR0 := Aside0.mk hr0
  have HC0 := Aside0.mk hc0
  have HGl := Aside0.mk hg
  have HR := Aside0.mk (RL.start m d w)
  by_cases hf : fewB l l0 = true
  · have HF := Aside0.mk hf
    have HC1 := Aside0.mk (fun W h0 h1 => meter_Clean_calls m A0 c0 l0 known W h0 hc0 h1)
    have HC2 := Aside0.mk (fun W h0 => rclean_calls m A0 c0 l0 known W h0 hc0)
    have HV1 := Aside0.mk (fun W h0 => meter_Valid_calls AL cL l W h0 hcl hln)
    have HV2 := Aside0.mk (fun W h0 => rvalid_calls AL cL l _ rfl W h0 hcl)
    have HB1 := Aside0.mk (fun W h0 h1 => meter_Bounds_calls m A0 c0 l0 d known W h0 hc0 h1)
    have HB2 := Aside0.mk (fun W h0 => rbounds_calls m A0 c0 l0 d known W h0 hc0)
    have HS1 := Aside0.mk (fun W h0 h1 h2 => meter_Several_calls AL cL l A0 c0 l0 d known W h0 hcl hln h1 hc0 h2)
    have HS2 := Aside0.mk (fun W h0 h1 => rseveral_calls AL cL l A0 c0 l0 d known W h0 hcl h1 hc0)
    unfold RowPost43 at HC1 HC2
    unfold BoundsPost at HB1 HB2 HS1 HS2
    clear hf hl0 hcl hr0 hc0 hg hln
    generalize (cleanL m l0 known).1 = c at *
    generalize (cleanL m l0 known).2 = ce at *
    generalize validL l = vb at *
    generalize (boundsL m l0 d known).1.1 = b1 at *
    generalize (boundsL m l0 d known).1.2 = b2 at *
    generalize (boundsL m l0 d known).2 = be at *
    generalize (severalL l l0 d known).1.1 = s1 at *
    generalize (severalL l l0 d known).1.2 = s2 at *
    generalize (severalL l l0 d known).2 = se at *
    go_enter Tryd.func3, Tryd.ntmps3
    go_upto_region 6 with (first
      | (go_at_call 11; (with_reducible refine (head_calls _ (HGl.out.below HR.out.hb)).mono ?_); rintro e w1 ⟨rfl, hb⟩; replace HR := Aside0.mk (HR.out.below hb); obtain ⟨z0, z1, z2, z3, z4, z5, u0, u1⟩ := HR.out.cells; clear hb)
      | (go_at_call 12; (with_reducible refine (few_calls AL cL l A0 c0 l0 true HF.out _ (Kd.C_below HL0.out HR.out.hb) HCL.out (Kd.C_below HR0.out HR.out.hb) HC0.out).mono ?_); rintro e w2 ⟨rfl, hb⟩; replace HR := Aside0.mk (HR.out.below hb); obtain ⟨z0, z1, z2, z3, z4, z5, u0, u1⟩ := HR.out.cells; clear hb)
      | (go_at_call 13; (with_reducible refine (HC1.out _ (Kd.C_below HR0.out HR.out.hb) (HGl.out.below HR.out.hb)).mono ?_); rintro e w3 ⟨v, rfl, hR, hb⟩; obtain ⟨A1, c1, rfl, hl1, hc1⟩ := Kd.R_reads hR; have HRa := Aside0.mk hc1; have HLa := Aside0.mk hl1; clear hR hl1 hc1; replace HR := Aside0.mk (HR.out.below hb); obtain ⟨z0, z1, z2, z3, z4, z5, u0, u1⟩ := HR.out.cells; clear hb)
      | (go_at_call 14; (with_reducible refine (HC2.out _ (Kd.C_below HR0.out HR.out.hb)).mono ?_); rintro e w4 ⟨v, rfl, hR, hb⟩; obtain ⟨A2, c2, rfl, hl2, hc2⟩ := Kd.R_reads hR; have HRb := Aside0.mk hc2; have HLb := Aside0.mk hl2; replace HRa := Aside0.mk (Kd.C_below HRa.out hb); clear hR hl2 hc2; replace HR := Aside0.mk (HR.out.below hb); obtain ⟨z0, z1, z2, z3, z4, z5, u0, u1⟩ := HR.out.cells; clear hb))
    clear z0 z1 z2 z3 z4 z5 u0 u1 HC1 HC2
    go_cut [11] (fun v11 wd => v11 = .bool true ∧ Aside0 (RL m d w wd))
    case first =>
      go_wp2_with (first
        | (go_at_call 15; (with_reducible refine (HV1.out _ (Kd.C_below HL0.out HR.out.hb)).mono ?_); rintro e w5 ⟨rfl, hb⟩; replace HRa := Aside0.mk (Kd.C_below HRa.out hb); replace HRb := Aside0.mk (Kd.C_below HRb.out hb); replace HR := Aside0.mk (HR.out.below hb); obtain ⟨z0, z1, z2, z3, z4, z5, u0, u1⟩ := HR.out.cells; clear hb)
        | (go_at_call 16; (with_reducible refine (HV2.out _ (Kd.C_below HL0.out HR.out.hb)).mono ?_); rintro e w6 ⟨rfl, hb⟩; replace HRa := Aside0.mk (Kd.C_below HRa.out hb); replace HRb := Aside0.mk (Kd.C_below HRb.out hb); replace HR := Aside0.mk (HR.out.below hb); obtain ⟨z0, z1, z2, z3, z4, z5, u0, u1⟩ := HR.out.cells; clear hb)
        | (go_at_call 17; (with_reducible refine (rsame_calls A1 c1 A2 c2 c _ HRa.out HLa.out HRb.out HLb.out).mono ?_); rintro e w7 ⟨rfl, hb⟩; replace HR := Aside0.mk (HR.out.below hb); obtain ⟨z0, z1, z2, z3, z4, z5, u0, u1⟩ := HR.out.cells; clear hb))
      go_meet
      case rel => exact ⟨by simp, HR⟩
    case rest =>
      obtain ⟨rfl, HR⟩ := hcut
      clear HRa HRb HLa HLb HV1 HV2
      have hsz := blk_lt HR.out.bD
      obtain ⟨z0, z1, z2, z3, z4, z5, u0, u1⟩ := HR.out.cells
      go_upto_region 7 with (fail)
      go_cut [13, 16] (fun v13 v16 wd => ∃ g : Nat, v13 = .int .i64 be ∧ v16 = .pointer (some ⟨g, 0, none⟩) ∧ Aside0 (w.heap.size + 1 < g) ∧ Aside0 (wd.heap[g]? = some (.cells #[.int .i64 b1, .int .i64 b2] 36 (0, 0))) ∧ Aside0 (RL m d w wd))
      case first =>
        go_wp2_with (go_at_call 18; (with_reducible refine (HB1.out _ (Kd.C_below HR0.out HR.out.hb) (HGl.out.below HR.out.hb)).mono ?_); rintro e w3 ⟨rfl, hb⟩; replace HR := Aside0.mk (HR.out.below hb); have hlt := blk_lt HR.out.bD; clear hb)
        go_meet
        case rel => exact ⟨_, rfl, rfl, ⟨hlt⟩, ⟨blk_new _ _⟩, ⟨HR.out.below (below_alloc (Below.refl _ _) _)⟩⟩
      case rest =>
        obtain ⟨g, rfl, rfl, HG, BX, HR⟩ := hcut
        clear HB1 z0 z1 z2 z3 z4 z5 u0 u1 hsz
        have hsz := blk_lt HR.out.bD
        obtain ⟨z0, z1, z2, z3, z4, z5, u0, u1⟩ := HR.out.cells
        go_upto_region 8 with (fail)
        go_cut [15, 17] (fun v15 v17 wd => ∃ g2 : Nat, v15 = .int .i64 be ∧ v17 = .pointer (some ⟨g2, 0, none⟩) ∧ Aside0 (w.heap.size + 1 < g2 ∧ g ≠ g2) ∧ Aside0 (wd.heap[g2]? = some (.cells #[.int .i64 b1, .int .i64 b2] 36 (0, 0))) ∧ Aside0 (wd.heap[g]? = some (.cells #[.int .i64 b1, .int .i64 b2] 36 (0, 0))) ∧ Aside0 (RL m d w wd))
        case first =>
          go_wp2_with (go_at_call 19; (with_reducible refine (HB2.out _ (Kd.C_below HR0.out HR.out.hb)).mono ?_); rintro e w3 ⟨rfl, hb⟩; replace HR := Aside0.mk (HR.out.below hb); have hlt := blk_lt HR.out.bD; replace BX := Aside0.mk (blk_below BX.out hb); have hgl := blk_lt BX.out; clear hb)
          go_meet
          case rel => exact ⟨_, rfl, rfl, ⟨hlt, Nat.ne_of_lt hgl⟩, ⟨blk_new _ _⟩, ⟨blk_alloc BX.out _⟩, ⟨HR.out.below (below_alloc (Below.refl _ _) _)⟩⟩
        case rest =>
          obtain ⟨g2, rfl, rfl, HG2, BY, BX, HR⟩ := hcut
          clear HB2 z0 z1 z2 z3 z4 z5 u0 u1 hsz
          have x0 := (blk_cell BX.out 0).trans rfl
          have x1 := (blk_cell BX.out 1).trans rfl
          have y0 := (blk_cell BY.out 0).trans rfl
          have y1 := (blk_cell BY.out 1).trans rfl
          go_upto_region 9 with (fail)
          go_cut [11] (fun v11 wd => v11 = .bool true ∧ Aside0 (wd.heap[g]? = some (.cells #[.int .i64 b1, .int .i64 b2] 36 (0, 0))) ∧ Aside0 (wd.heap[g2]? = some (.cells #[.int .i64 b1, .int .i64 b2] 36 (0, 0))) ∧ Aside0 (RL m d w wd))
          case first =>
            go_wp2
            go_meet
            case rel => exact ⟨by simp, BX, BY, HR⟩
          case rest =>
            obtain ⟨rfl, BX, BY, HR⟩ := hcut
            clear x0 x1 y0 y1
            obtain ⟨z0, z1, z2, z3, z4, z5, u0, u1⟩ := HR.out.cells
            go_upto_region 10 with (fail)
            go_cut [13] (fun v13 wd => v13 = .int .i64 se ∧ Aside0 (wd.heap[g]? = some (.cells #[.int .i64 s1, .int .i64 s2] 36 (0, 0))) ∧ Aside0 (wd.heap[g2]? = some (.cells #[.int .i64 b1, .int .i64 b2] 36 (0, 0))) ∧ Aside0 (RL m d w wd))
            case first =>
              go_wp2_with (go_at_call 20; (with_reducible refine (HS1.out _ (Kd.C_below HL0.out HR.out.hb) (Kd.C_below HR0.out HR.out.hb) (HGl.out.below HR.out.hb)).mono ?_); rintro e w3 ⟨rfl, hb⟩; replace HR := Aside0.mk (HR.out.below hb); replace BX := Aside0.mk (blk_below BX.out hb); replace BY := Aside0.mk (blk_below BY.out hb); have x0 := (blk_cell BX.out 0).trans rfl; have x1 := (blk_cell BX.out 1).trans rfl; have xf0 := blk_frozen BX.out 0; have xf1 := blk_frozen BX.out 1; clear hb)
              go_meet
              case rel => exact ⟨rfl, ⟨blk_put (blk_put BX.out 0 _ rfl) 1 _ rfl⟩, ⟨blk_far (blk_far BY.out (p := ⟨g, 0, none⟩) (Ne.symm HG2.out.2) _) (p := ⟨g, 1, none⟩) (Ne.symm HG2.out.2) _⟩, ⟨(HR.out.set HG.out _ _).set HG.out _ _⟩⟩
            case rest =>
              obtain ⟨rfl, BX, BY, HR⟩ := hcut
              clear HS1 z0 z1 z2 z3 z4 z5 u0 u1
              obtain ⟨z0, z1, z2, z3, z4, z5, u0, u1⟩ := HR.out.cells
              go_upto_region 11 with (fail)
              go_cut [15] (fun v15 wd => v15 = .int .i64 se ∧ Aside0 (wd.heap[g]? = some (.cells #[.int .i64 s1, .int .i64 s2] 36 (0, 0))) ∧ Aside0 (wd.heap[g2]? = some (.cells #[.int .i64 s1, .int .i64 s2] 36 (0, 0))) ∧ Aside0 (Below w.heap.size w wd))
              case first =>
                go_wp2_with (go_at_call 21; (with_reducible refine (HS2.out _ (Kd.C_below HL0.out HR.out.hb) (Kd.C_below HR0.out HR.out.hb)).mono ?_); rintro e w3 ⟨rfl, hb⟩; replace HR := Aside0.mk (HR.out.below hb); replace BX := Aside0.mk (blk_below BX.out hb); replace BY := Aside0.mk (blk_below BY.out hb); have y0 := (blk_cell BY.out 0).trans rfl; have y1 := (blk_cell BY.out 1).trans rfl; have yf0 := blk_frozen BY.out 0; have yf1 := blk_frozen BY.out 1; clear hb)
                go_meet
                case rel => exact ⟨rfl, ⟨blk_far (blk_far BX.out (p := ⟨g2, 0, none⟩) HG2.out.2 _) (p := ⟨g2, 1, none⟩) HG2.out.2 _⟩, ⟨blk_put (blk_put BY.out 0 _ rfl) 1 _ rfl⟩, ⟨((HR.out.set HG2.out.1 _ _).set HG2.out.1 _ _).hb⟩⟩
              case rest =>
                obtain ⟨rfl, BX, BY, HW⟩ := hcut
                clear z0 z1 z2 z3 z4 z5 u0 u1
                have x0 := (blk_cell BX.out 0).trans rfl
                have x1 := (blk_cell BX.out 1).trans rfl
                have y0 := (blk_cell BY.out 0).trans rfl
                have y1 := (blk_cell BY.out 1).trans rfl
                go_wp2
                go_ret
                exact ⟨by simp, HW.out⟩
  · rw [Bool.not_eq_true] at hf
    have HF := Aside0.mk hf
    clear hf hl0 hcl hr0 hc0 hg
    go_enter Tryd.func3, Tryd.ntmps3
    go_wp2_with (first
      | (go_at_call 11; (with_reducible refine (head_calls _ (HGl.out.below HR.out.hb)).mono ?_); rintro e w1 ⟨rfl, hb⟩; replace HR := Aside0.mk (HR.out.below hb); obtain ⟨z0, z1, z2, z3, z4, z5, u0, u1⟩ := HR.out.cells; clear hb)
      | (go_at_call 12; (with_reducible refine (few_calls AL cL l A0 c0 l0 false HF.out _ (Kd.C_below HL0.out HR.out.hb) HCL.out (Kd.C_below HR0.out HR.out.hb) HC0.out).mono ?_); rintro e w2 ⟨rfl, hb⟩; replace HR := Aside0.mk (HR.out.below hb); obtain ⟨z0, z1, z2, z3, z4, z5, u0, u1⟩ := HR.out.cells; clear hb))
    go_ret
    exact ⟨rfl, HR.out.hb⟩
end Go.Proofs.YtknfkibnocfjiaaDoor.P
