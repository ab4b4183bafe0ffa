/- P27.7, the walk of the law MeterSeveral: for all inputs it returns true. -/
import Derived.Test.YtknfkibnocfjiaaDoorLawBase
import Derived.Test.YtknfkibnocfjiaaDoorMPure3
namespace Go.Proofs.YtknfkibnocfjiaaDoor.P
open Go.RowKit Go.Proofs.YtknfkibnocfjiaaDoorW.PrintWords Go.Proofs.YtknfkibnocfjiaaDoorW.PrintLast Go.Proofs.YtknfkibnocfjiaaDoorW.PrintMore Go.Proofs.YtknfkibnocfjiaaDoor.M
set_option linter.unusedVariables false
set_option linter.unusedSimpArgs false

set_option maxHeartbeats 32000000 in
set_option maxRecDepth 100000 in
theorem MeterSeveral_calls (AL : Option Addr) (cL : Nat) (l : List S25) (A0 : Option Addr) (c0 : Nat) (l0 : List S43) (d : S23) (known : Int) (w : World) (hl0 : Kd.C k25 w AL l.length l) (hcl : l.length ≤ cL) (hr0 : Kd.C k43 w A0 l0.length l0) (hc0 : l0.length ≤ c0)
    (wm : l.length ≤ maxLen ∧ ∀ x ∈ l, wfM x) (wl : l0.length ≤ maxLen ∧ ∀ x ∈ l0, wfR x) (ws : wfSpan d) (wk : (Lit.int .i64 known).wf = true) (hg : Gl w) :
    Calls Tryd.prog 9 #[.slice AL l.length cL, .slice A0 l0.length c0, .agg #[.int .i64 d.f0, .int .i64 d.f1], .int .i64 known] w fun e w' => e = .returned (.bool true) ∧ Below w.heap.size w w' := by
  have hln : l.length ≤ 9223372036854775807 := by have := wm.1; simp only [maxLen] at this; omega
  clear wm wl ws wk
  have hu43 := Tryd.underlying43
  have hu25 := Tryd.underlying25
  have hu23 := Tryd.underlying23
  have hu36 := Tryd.underlying36
  have HL0 := Aside0.mk hl0
  have HCL := Aside0.mk hcl
  have HR0 := Aside0.mk hr0
  have HC0 := Aside0.mk hc0
  have HGl := Aside0.mk hg
  have HB := Aside0.mk (below_alloc (Below.refl w.heap.size w) (.cells #[.int .i64 d.f0, .int .i64 d.f1] 23))
  have BD := Aside0.mk (blk_new w (.cells #[.int .i64 d.f0, .int .i64 d.f1] 23))
  have HSe := Aside0.mk (fun W h0 h1 h2 => meter_Several_calls AL cL l A0 c0 l0 d known W h0 HCL.out hln h1 HC0.out h2)
  unfold BoundsPost at HSe
  clear hl0 hcl hr0 hc0 hg
  by_cases hf : fewB l l0 = true
  · have HF := Aside0.mk hf
    have hl20 : l.length ≤ 20 := by
      unfold fewB at hf
      simp only [Bool.and_eq_true, decide_eq_true_eq] at hf
      exact hf.1
    clear hf
    have HER := Aside0.mk (several_err (l := l) (r := l0) (d := d) (known := known))
    have HOK := Aside0.mk (several_ok (l := l) (r := l0) (d := d) (known := known))
    have HXX : Aside0 ((severalL l l0 d known) = (((severalL l l0 d known).1.1, (severalL l l0 d known).1.2), (severalL l l0 d known).2)) := ⟨rfl⟩
    by_cases her : (severalL l l0 d known).2 = 0
    · have HSV0 : Aside0 (sevF l0 d known l (0, 0) = (((severalL l l0 d known).1.1, (severalL l l0 d known).1.2), 0)) := ⟨by rw [← HOK.out her]; exact HXX.out.trans (by rw [her])⟩
      have p0 : ((severalL l l0 d known).2 != 0) = false := by simp [her]
      clear her HER HOK HXX
      generalize (severalL l l0 d known).1.1 = x1 at *
      generalize (severalL l l0 d known).1.2 = x2 at *
      generalize (severalL l l0 d known).2 = ea at *
      go_enter Tryd.func9, Tryd.ntmps9
      go_upto_region 7 with (first
        | (go_at_call 11; (with_reducible refine (head_calls _ (HGl.out.below HB.out)).mono ?_); rintro e w1 ⟨rfl, hb⟩; replace HB := Aside0.mk (below_step HB.out hb); replace BD := Aside0.mk (blk_below BD.out hb); have d0 : w1.cell? ⟨w.heap.size, 0, none⟩ = some (.int .i64 d.f0) := (blk_cell BD.out 0).trans rfl; have d1 : w1.cell? ⟨w.heap.size, 1, none⟩ = some (.int .i64 d.f1) := (blk_cell BD.out 1).trans rfl; clear hb)
        | (go_at_call 12; (with_reducible refine (few_calls AL cL l A0 c0 l0 true HF.out _ (Kd.C_below HL0.out HB.out) HCL.out (Kd.C_below HR0.out HB.out) HC0.out).mono ?_); rintro e w2 ⟨rfl, hb⟩; replace HB := Aside0.mk (below_step HB.out hb); replace BD := Aside0.mk (blk_below BD.out hb); have d0 : w2.cell? ⟨w.heap.size, 0, none⟩ = some (.int .i64 d.f0) := (blk_cell BD.out 0).trans rfl; have d1 : w2.cell? ⟨w.heap.size, 1, none⟩ = some (.int .i64 d.f1) := (blk_cell BD.out 1).trans rfl; clear hb)
        | (go_at_call 20; (with_reducible refine (HSe.out _ (Kd.C_below HL0.out HB.out) (Kd.C_below HR0.out HB.out) (HGl.out.below HB.out)).mono ?_); rintro e w3 ⟨rfl, hb⟩; replace HB := Aside0.mk (below_alloc (below_step HB.out hb) (.cells #[.int .i64 x1, .int .i64 x2] 36)); replace BD := Aside0.mk (blk_alloc (blk_below BD.out hb) (.cells #[.int .i64 x1, .int .i64 x2] 36)); have BX := Aside0.mk (blk_new w3 (.cells #[.int .i64 x1, .int .i64 x2] 36)); have d0 : (w3.alloc (.cells #[.int .i64 x1, .int .i64 x2] 36)).cell? ⟨w.heap.size, 0, none⟩ = some (.int .i64 d.f0) := (blk_cell BD.out 0).trans rfl; have d1 : (w3.alloc (.cells #[.int .i64 x1, .int .i64 x2] 36)).cell? ⟨w.heap.size, 1, none⟩ = some (.int .i64 d.f1) := (blk_cell BD.out 1).trans rfl; have q0 : (w3.alloc (.cells #[.int .i64 x1, .int .i64 x2] 36)).cell? ⟨w3.heap.size, 0, none⟩ = some (.int .i64 x1) := (blk_cell BX.out 0).trans rfl; have q1 : (w3.alloc (.cells #[.int .i64 x1, .int .i64 x2] 36)).cell? ⟨w3.heap.size, 1, none⟩ = some (.int .i64 x2) := (blk_cell BX.out 1).trans rfl; clear hb))
      have hnw := blk_lt BX.out
      obtain ⟨w5, hw5⟩ : ∃ w5, (w3.alloc (.cells #[.int .i64 x1, .int .i64 x2] 36)) = w5 := ⟨_, rfl⟩
      have hsz5 : (w3.alloc (.cells #[.int .i64 x1, .int .i64 x2] 36)).heap.size = w3.heap.size + 1 := by simp
      rw [hw5] at HB BD BX hnw hsz5 ⊢
      clear hw5 d0 d1 q0 q1
      generalize w3.heap.size = gx at *
      have HS5 := Aside0.mk hsz5
      clear hsz5
      obtain ⟨w6, hw6⟩ : ∃ w6, w5 = w6 := ⟨_, rfl⟩
      rw [hw6] at HB BD BX hnw HS5 ⊢
      clear hw6
      go_wp2
      have hsw := HB.out.size
      go_loopg [42] l.length (fun gk v42 w' => ∃ i : Nat, v42 = .int .i64 i ∧ Aside0 (i ≤ l.length ∧ gk = l.length - i) ∧ Aside0 (Below w6.heap.size w6 w') ∧ Aside0 (∃ s : Int × Int, w'.heap[w6.heap.size]? = some (.cells #[.int .i64 s.1, .int .i64 s.2] 36 (0, 0)) ∧ sevF l0 d known (l.drop i) s = ((x1, x2), 0)))
      case atStart => exact ⟨0, rfl, ⟨Nat.zero_le _, rfl⟩, ⟨below_alloc (Below.refl _ _) _⟩, ⟨(0, 0), blk_new _ _, HSV0.out⟩⟩
      case round =>
        obtain ⟨i, rfl, HI, HK, HSm⟩ := hrel
        obtain ⟨⟨s1, s2⟩, BS0, hsv⟩ := HSm.out
        have BS := Aside0.mk BS0
        have HSV := Aside0.mk hsv
        have hi := HI.out.1
        clear HSm BS0 hsv HSV0
        by_cases hlt : i < l.length
        · obtain ⟨xad, e, x0', x1', x2', x3', x4', x5'⟩ := at_T25 HL0.out ((i : Nat) : Int) (by omega) (by omega)
          cases e
          simp only [Int.toNat_natCast] at x0' x1' x2' x3' x4' x5'
          have HBr := Aside0.mk (below_step HB.out HK.out)
          replace x0' := cell_on HBr.out x0'
          replace x1' := cell_on HBr.out x1'
          replace x2' := cell_on HBr.out x2'
          replace x3' := cell_on HBr.out x3'
          replace x4' := cell_on HBr.out x4'
          replace x5' := cell_on HBr.out x5'
          have HDr : Aside0 (l.drop i = rd_T25 l (i : Int) :: l.drop (i + 1)) := ⟨by rw [rd25_get hlt]; exact List.drop_eq_getElem_cons hlt⟩
          generalize hm : rd_T25 l (i : Int) = m at *
          clear hm
          have hsh := HSV.out
          rw [HDr.out] at hsh
          obtain ⟨hy0, hsn⟩ := sevF_head hsh
          have haw := Aside0.mk (bounds_away hy0)
          have HBc := Aside0.mk (fun W h1 h2 => meter_Bounds_calls m A0 c0 l0 d known W h1 HC0.out h2)
          unfold BoundsPost at HBc
          rw [hy0] at HBc
          have HX2 := Aside0.mk hsn
          clear hsh hsn hy0 HSV
          dsimp only at HX2
          generalize hyy : (boundsL m l0 d known).1 = yy at *
          clear hyy
          obtain ⟨y1, y2⟩ := yy
          dsimp only at HX2 HBc
          have BDa := Aside0.mk (blk_alloc (blk_below BD.out HK.out) (.cells #[.int .i64 m.f0, .int .i64 m.f1, .int .i64 m.f2, .int .i64 m.f3, .int .i64 m.f4.f0, .int .i64 m.f4.f1] 25))
          have a0 : (wr.alloc (.cells #[.int .i64 m.f0, .int .i64 m.f1, .int .i64 m.f2, .int .i64 m.f3, .int .i64 m.f4.f0, .int .i64 m.f4.f1] 25)).cell? ⟨w.heap.size, 0, none⟩ = some (.int .i64 d.f0) := (blk_cell BDa.out 0).trans rfl
          have a1 : (wr.alloc (.cells #[.int .i64 m.f0, .int .i64 m.f1, .int .i64 m.f2, .int .i64 m.f3, .int .i64 m.f4.f0, .int .i64 m.f4.f1] 25)).cell? ⟨w.heap.size, 1, none⟩ = some (.int .i64 d.f1) := (blk_cell BDa.out 1).trans rfl
          have BSa := Aside0.mk (blk_alloc BS.out (.cells #[.int .i64 m.f0, .int .i64 m.f1, .int .i64 m.f2, .int .i64 m.f3, .int .i64 m.f4.f0, .int .i64 m.f4.f1] 25))
          have HBa := Aside0.mk (below_alloc HBr.out (.cells #[.int .i64 m.f0, .int .i64 m.f1, .int .i64 m.f2, .int .i64 m.f3, .int .i64 m.f4.f0, .int .i64 m.f4.f1] 25))
          have HKa := Aside0.mk (below_alloc HK.out (.cells #[.int .i64 m.f0, .int .i64 m.f1, .int .i64 m.f2, .int .i64 m.f3, .int .i64 m.f4.f0, .int .i64 m.f4.f1] 25))
          by_cases t1 : m.f4.f1 ≤ d.f0
          · have hz := haw.out (.inl t1)
            obtain ⟨rfl, rfl⟩ : y1 = 0 ∧ y2 = 0 := ⟨congrArg Prod.fst hz, congrArg Prod.snd hz⟩
            have b1 : decide (m.f4.f1 ≤ d.f0) = true := decide_eq_true t1
            clear hz haw
            have HX3 : Aside0 (sevF l0 d known (l.drop (i + 1)) (wrap64 s1, wrap64 s2) = ((x1, x2), 0)) := ⟨by have h := HX2.out; rw [Int.add_zero, Int.add_zero] at h; exact h⟩
            go_wp2_with (first
              | (go_at_call 18; (with_reducible refine (HBc.out _ (Kd.C_below HR0.out HBa.out) (HGl.out.below HBa.out)).mono ?_); rintro e w7 ⟨rfl, hb⟩; have HB7 := Aside0.mk hb; have s0q : (w7.alloc (.cells #[.int .i64 0, .int .i64 0] 36)).cell? ⟨w6.heap.size, 0, none⟩ = some (.int .i64 s1) := (blk_cell (blk_alloc (blk_below BSa.out hb) _) 0).trans rfl; have s1q : (w7.alloc (.cells #[.int .i64 0, .int .i64 0] 36)).cell? ⟨w6.heap.size, 1, none⟩ = some (.int .i64 s2) := (blk_cell (blk_alloc (blk_below BSa.out hb) _) 1).trans rfl; have sf0 := blk_frozen (blk_alloc (blk_below BSa.out hb) (.cells #[.int .i64 0, .int .i64 0] 36)) 0; have sf1 := blk_frozen (blk_alloc (blk_below BSa.out hb) (.cells #[.int .i64 0, .int .i64 0] 36)) 1; have n0 : (w7.alloc (.cells #[.int .i64 0, .int .i64 0] 36)).cell? ⟨w.heap.size, 0, none⟩ = some (.int .i64 d.f0) := (blk_cell (blk_alloc (blk_below BDa.out hb) _) 0).trans rfl; have n1 : (w7.alloc (.cells #[.int .i64 0, .int .i64 0] 36)).cell? ⟨w.heap.size, 1, none⟩ = some (.int .i64 d.f1) := (blk_cell (blk_alloc (blk_below BDa.out hb) _) 1).trans rfl; have k4 : (w7.alloc (.cells #[.int .i64 0, .int .i64 0] 36)).cell? ⟨wr.heap.size, 4, none⟩ = some (.int .i64 m.f4.f0) := (blk_cell (blk_alloc (blk_below (blk_new wr (.cells #[.int .i64 m.f0, .int .i64 m.f1, .int .i64 m.f2, .int .i64 m.f3, .int .i64 m.f4.f0, .int .i64 m.f4.f1] 25)) hb) _) 4).trans rfl; have k5 : (w7.alloc (.cells #[.int .i64 0, .int .i64 0] 36)).cell? ⟨wr.heap.size, 5, none⟩ = some (.int .i64 m.f4.f1) := (blk_cell (blk_alloc (blk_below (blk_new wr (.cells #[.int .i64 m.f0, .int .i64 m.f1, .int .i64 m.f2, .int .i64 m.f3, .int .i64 m.f4.f0, .int .i64 m.f4.f1] 25)) hb) _) 5).trans rfl; clear hb))
            have BS2 := Aside0.mk (blk_put (blk_put (blk_alloc (blk_below BSa.out HB7.out) (.cells #[.int .i64 0, .int .i64 0] 36)) 0 (.int .i64 (wrap64 s1)) rfl) 1 (.int .i64 (wrap64 s2)) rfl)
            have HK2 := Aside0.mk (below_set (g := w6.heap.size) (j := 1) (v := .int .i64 (wrap64 s2)) (below_set (g := w6.heap.size) (j := 0) (v := .int .i64 (wrap64 s1)) (below_alloc (below_step HKa.out HB7.out) (.cells #[.int .i64 0, .int .i64 0] 36)) (Nat.le_refl _)) (Nat.le_refl _))
            go_roundg (l.length - (i + 1))
            case measure => have := HI.out; omega
            case rel => exact ⟨i + 1, by go_num, ⟨by omega, rfl⟩, HK2, ⟨(_, _), BS2.out, HX3.out⟩⟩
          · by_cases t2 : d.f1 ≤ m.f4.f0
            · have hz := haw.out (.inr t2)
              obtain ⟨rfl, rfl⟩ : y1 = 0 ∧ y2 = 0 := ⟨congrArg Prod.fst hz, congrArg Prod.snd hz⟩
              have b1 : decide (m.f4.f1 ≤ d.f0) = false := decide_eq_false t1
              have b2 : decide (d.f1 ≤ m.f4.f0) = true := decide_eq_true t2
              clear hz haw
              have HX3 : Aside0 (sevF l0 d known (l.drop (i + 1)) (wrap64 s1, wrap64 s2) = ((x1, x2), 0)) := ⟨by have h := HX2.out; rw [Int.add_zero, Int.add_zero] at h; exact h⟩
              go_wp2_with (first
                | (go_at_call 18; (with_reducible refine (HBc.out _ (Kd.C_below HR0.out HBa.out) (HGl.out.below HBa.out)).mono ?_); rintro e w7 ⟨rfl, hb⟩; have HB7 := Aside0.mk hb; have s0q : (w7.alloc (.cells #[.int .i64 0, .int .i64 0] 36)).cell? ⟨w6.heap.size, 0, none⟩ = some (.int .i64 s1) := (blk_cell (blk_alloc (blk_below BSa.out hb) _) 0).trans rfl; have s1q : (w7.alloc (.cells #[.int .i64 0, .int .i64 0] 36)).cell? ⟨w6.heap.size, 1, none⟩ = some (.int .i64 s2) := (blk_cell (blk_alloc (blk_below BSa.out hb) _) 1).trans rfl; have sf0 := blk_frozen (blk_alloc (blk_below BSa.out hb) (.cells #[.int .i64 0, .int .i64 0] 36)) 0; have sf1 := blk_frozen (blk_alloc (blk_below BSa.out hb) (.cells #[.int .i64 0, .int .i64 0] 36)) 1; have n0 : (w7.alloc (.cells #[.int .i64 0, .int .i64 0] 36)).cell? ⟨w.heap.size, 0, none⟩ = some (.int .i64 d.f0) := (blk_cell (blk_alloc (blk_below BDa.out hb) _) 0).trans rfl; have n1 : (w7.alloc (.cells #[.int .i64 0, .int .i64 0] 36)).cell? ⟨w.heap.size, 1, none⟩ = some (.int .i64 d.f1) := (blk_cell (blk_alloc (blk_below BDa.out hb) _) 1).trans rfl; have k4 : (w7.alloc (.cells #[.int .i64 0, .int .i64 0] 36)).cell? ⟨wr.heap.size, 4, none⟩ = some (.int .i64 m.f4.f0) := (blk_cell (blk_alloc (blk_below (blk_new wr (.cells #[.int .i64 m.f0, .int .i64 m.f1, .int .i64 m.f2, .int .i64 m.f3, .int .i64 m.f4.f0, .int .i64 m.f4.f1] 25)) hb) _) 4).trans rfl; have k5 : (w7.alloc (.cells #[.int .i64 0, .int .i64 0] 36)).cell? ⟨wr.heap.size, 5, none⟩ = some (.int .i64 m.f4.f1) := (blk_cell (blk_alloc (blk_below (blk_new wr (.cells #[.int .i64 m.f0, .int .i64 m.f1, .int .i64 m.f2, .int .i64 m.f3, .int .i64 m.f4.f0, .int .i64 m.f4.f1] 25)) hb) _) 5).trans rfl; clear hb))
              have BS2 := Aside0.mk (blk_put (blk_put (blk_alloc (blk_below BSa.out HB7.out) (.cells #[.int .i64 0, .int .i64 0] 36)) 0 (.int .i64 (wrap64 s1)) rfl) 1 (.int .i64 (wrap64 s2)) rfl)
              have HK2 := Aside0.mk (below_set (g := w6.heap.size) (j := 1) (v := .int .i64 (wrap64 s2)) (below_set (g := w6.heap.size) (j := 0) (v := .int .i64 (wrap64 s1)) (below_alloc (below_step HKa.out HB7.out) (.cells #[.int .i64 0, .int .i64 0] 36)) (Nat.le_refl _)) (Nat.le_refl _))
              go_roundg (l.length - (i + 1))
              case measure => have := HI.out; omega
              case rel => exact ⟨i + 1, by go_num, ⟨by omega, rfl⟩, HK2, ⟨(_, _), BS2.out, HX3.out⟩⟩
            · have b1 : decide (m.f4.f1 ≤ d.f0) = false := decide_eq_false t1
              have b2 : decide (d.f1 ≤ m.f4.f0) = false := decide_eq_false t2
              clear haw
              go_wp2_with (first
                | (go_at_call 18; (with_reducible refine (HBc.out _ (Kd.C_below HR0.out HBa.out) (HGl.out.below HBa.out)).mono ?_); rintro e w7 ⟨rfl, hb⟩; have HB7 := Aside0.mk hb; have s0q : (w7.alloc (.cells #[.int .i64 y1, .int .i64 y2] 36)).cell? ⟨w6.heap.size, 0, none⟩ = some (.int .i64 s1) := (blk_cell (blk_alloc (blk_below BSa.out hb) _) 0).trans rfl; have s1q : (w7.alloc (.cells #[.int .i64 y1, .int .i64 y2] 36)).cell? ⟨w6.heap.size, 1, none⟩ = some (.int .i64 s2) := (blk_cell (blk_alloc (blk_below BSa.out hb) _) 1).trans rfl; have sf0 := blk_frozen (blk_alloc (blk_below BSa.out hb) (.cells #[.int .i64 y1, .int .i64 y2] 36)) 0; have sf1 := blk_frozen (blk_alloc (blk_below BSa.out hb) (.cells #[.int .i64 y1, .int .i64 y2] 36)) 1; have n0 : (w7.alloc (.cells #[.int .i64 y1, .int .i64 y2] 36)).cell? ⟨w.heap.size, 0, none⟩ = some (.int .i64 d.f0) := (blk_cell (blk_alloc (blk_below BDa.out hb) _) 0).trans rfl; have n1 : (w7.alloc (.cells #[.int .i64 y1, .int .i64 y2] 36)).cell? ⟨w.heap.size, 1, none⟩ = some (.int .i64 d.f1) := (blk_cell (blk_alloc (blk_below BDa.out hb) _) 1).trans rfl; have k4 : (w7.alloc (.cells #[.int .i64 y1, .int .i64 y2] 36)).cell? ⟨wr.heap.size, 4, none⟩ = some (.int .i64 m.f4.f0) := (blk_cell (blk_alloc (blk_below (blk_new wr (.cells #[.int .i64 m.f0, .int .i64 m.f1, .int .i64 m.f2, .int .i64 m.f3, .int .i64 m.f4.f0, .int .i64 m.f4.f1] 25)) hb) _) 4).trans rfl; have k5 : (w7.alloc (.cells #[.int .i64 y1, .int .i64 y2] 36)).cell? ⟨wr.heap.size, 5, none⟩ = some (.int .i64 m.f4.f1) := (blk_cell (blk_alloc (blk_below (blk_new wr (.cells #[.int .i64 m.f0, .int .i64 m.f1, .int .i64 m.f2, .int .i64 m.f3, .int .i64 m.f4.f0, .int .i64 m.f4.f1] 25)) hb) _) 5).trans rfl; clear hb))
              have BS2 := Aside0.mk (blk_put (blk_put (blk_alloc (blk_below BSa.out HB7.out) (.cells #[.int .i64 y1, .int .i64 y2] 36)) 0 (.int .i64 (wrap64 (s1 + y1))) rfl) 1 (.int .i64 (wrap64 (s2 + y2))) rfl)
              have HK2 := Aside0.mk (below_set (g := w6.heap.size) (j := 1) (v := .int .i64 (wrap64 (s2 + y2))) (below_set (g := w6.heap.size) (j := 0) (v := .int .i64 (wrap64 (s1 + y1))) (below_alloc (below_step HKa.out HB7.out) (.cells #[.int .i64 y1, .int .i64 y2] 36)) (Nat.le_refl _)) (Nat.le_refl _))
              go_roundg (l.length - (i + 1))
              case measure => have := HI.out; omega
              case rel => exact ⟨i + 1, by go_num, ⟨by omega, rfl⟩, HK2, ⟨(_, _), BS2.out, HX2.out⟩⟩
        · obtain rfl : i = l.length := by omega
          have hx := HSV.out
          rw [List.drop_length, sevF] at hx
          obtain ⟨rfl, rfl⟩ : s1 = x1 ∧ s2 = x2 := ⟨congrArg (fun p => p.1.1) hx, congrArg (fun p => p.1.2) hx⟩
          clear hx HSV
          have BXr := Aside0.mk (blk_below BX.out HK.out)
          have s0 : wr.cell? ⟨w6.heap.size, 0, none⟩ = some (.int .i64 s1) := (blk_cell BS.out 0).trans rfl
          have s1' : wr.cell? ⟨w6.heap.size, 1, none⟩ = some (.int .i64 s2) := (blk_cell BS.out 1).trans rfl
          have r0 : wr.cell? ⟨gx, 0, none⟩ = some (.int .i64 s1) := (blk_cell BXr.out 0).trans rfl
          have r1 : wr.cell? ⟨gx, 1, none⟩ = some (.int .i64 s2) := (blk_cell BXr.out 1).trans rfl
          go_wp2
          go_ret
          exact ⟨rfl, below_step HB.out HK.out⟩
    · have hz := HER.out her
      have p0 : ((severalL l l0 d known).2 != 0) = true := by rw [bne_iff_ne]; exact her
      have hz1 : (severalL l l0 d known).1.1 = 0 := by rw [hz]
      have hz2 : (severalL l l0 d known).1.2 = 0 := by rw [hz]
      rw [hz1, hz2] at HSe
      clear her HER HOK HXX hz hz1 hz2
      generalize (severalL l l0 d known).2 = ea at *
      go_enter Tryd.func9, Tryd.ntmps9
      go_wp2_with (first
        | (go_at_call 11; (with_reducible refine (head_calls _ (HGl.out.below HB.out)).mono ?_); rintro e w1 ⟨rfl, hb⟩; replace HB := Aside0.mk (below_step HB.out hb); replace BD := Aside0.mk (blk_below BD.out hb); have d0 : w1.cell? ⟨w.heap.size, 0, none⟩ = some (.int .i64 d.f0) := (blk_cell BD.out 0).trans rfl; have d1 : w1.cell? ⟨w.heap.size, 1, none⟩ = some (.int .i64 d.f1) := (blk_cell BD.out 1).trans rfl; clear hb)
        | (go_at_call 12; (with_reducible refine (few_calls AL cL l A0 c0 l0 true HF.out _ (Kd.C_below HL0.out HB.out) HCL.out (Kd.C_below HR0.out HB.out) HC0.out).mono ?_); rintro e w2 ⟨rfl, hb⟩; replace HB := Aside0.mk (below_step HB.out hb); replace BD := Aside0.mk (blk_below BD.out hb); have d0 : w2.cell? ⟨w.heap.size, 0, none⟩ = some (.int .i64 d.f0) := (blk_cell BD.out 0).trans rfl; have d1 : w2.cell? ⟨w.heap.size, 1, none⟩ = some (.int .i64 d.f1) := (blk_cell BD.out 1).trans rfl; clear hb)
        | (go_at_call 20; (with_reducible refine (HSe.out _ (Kd.C_below HL0.out HB.out) (Kd.C_below HR0.out HB.out) (HGl.out.below HB.out)).mono ?_); rintro e w3 ⟨rfl, hb⟩; replace HB := Aside0.mk (below_alloc (below_step HB.out hb) (.cells #[.int .i64 0, .int .i64 0] 36)); replace BD := Aside0.mk (blk_alloc (blk_below BD.out hb) (.cells #[.int .i64 0, .int .i64 0] 36)); have BX := Aside0.mk (blk_new w3 (.cells #[.int .i64 0, .int .i64 0] 36)); have d0 : (w3.alloc (.cells #[.int .i64 0, .int .i64 0] 36)).cell? ⟨w.heap.size, 0, none⟩ = some (.int .i64 d.f0) := (blk_cell BD.out 0).trans rfl; have d1 : (w3.alloc (.cells #[.int .i64 0, .int .i64 0] 36)).cell? ⟨w.heap.size, 1, none⟩ = some (.int .i64 d.f1) := (blk_cell BD.out 1).trans rfl; have q0 : (w3.alloc (.cells #[.int .i64 0, .int .i64 0] 36)).cell? ⟨w3.heap.size, 0, none⟩ = some (.int .i64 0) := (blk_cell BX.out 0).trans rfl; have q1 : (w3.alloc (.cells #[.int .i64 0, .int .i64 0] 36)).cell? ⟨w3.heap.size, 1, none⟩ = some (.int .i64 0) := (blk_cell BX.out 1).trans rfl; clear hb))
      go_ret
      exact ⟨rfl, HB.out⟩
  · rw [Bool.not_eq_true] at hf
    have HF := Aside0.mk hf
    clear hf
    go_enter Tryd.func9, Tryd.ntmps9
    go_wp2_with (first
        | (go_at_call 11; (with_reducible refine (head_calls _ (HGl.out.below HB.out)).mono ?_); rintro e w1 ⟨rfl, hb⟩; replace HB := Aside0.mk (below_step HB.out hb); replace BD := Aside0.mk (blk_below BD.out hb); have d0 : w1.cell? ⟨w.heap.size, 0, none⟩ = some (.int .i64 d.f0) := (blk_cell BD.out 0).trans rfl; have d1 : w1.cell? ⟨w.heap.size, 1, none⟩ = some (.int .i64 d.f1) := (blk_cell BD.out 1).trans rfl; clear hb)
        | (go_at_call 12; (with_reducible refine (few_calls AL cL l A0 c0 l0 false HF.out _ (Kd.C_below HL0.out HB.out) HCL.out (Kd.C_below HR0.out HB.out) HC0.out).mono ?_); rintro e w2 ⟨rfl, hb⟩; replace HB := Aside0.mk (below_step HB.out hb); replace BD := Aside0.mk (blk_below BD.out hb); have d0 : w2.cell? ⟨w.heap.size, 0, none⟩ = some (.int .i64 d.f0) := (blk_cell BD.out 0).trans rfl; have d1 : w2.cell? ⟨w.heap.size, 1, none⟩ = some (.int .i64 d.f1) := (blk_cell BD.out 1).trans rfl; clear hb))
    go_ret
    exact ⟨rfl, HB.out⟩
end Go.Proofs.YtknfkibnocfjiaaDoor.P
