/- P27.3, the walk of the law MeterTruth: for all inputs it returns true. -/
import Derived.Test.YtknfkibnocfjiaaDoorLawMade
namespace Go.Proofs.YtknfkibnocfjiaaDoor.P
open Go.RowKit Go.Proofs.YtknfkibnocfjiaaDoorW.PrintWords Go.Proofs.YtknfkibnocfjiaaDoorW.PrintLast Go.Proofs.YtknfkibnocfjiaaDoorW.PrintMore Go.Proofs.YtknfkibnocfjiaaDoor.M
set_option linter.unusedVariables false
set_option linter.unusedSimpArgs false
theorem below_t {a b c : World} (h : Below a.heap.size a b) (k : Below b.heap.size b c) : Below a.heap.size a c := below_then h h.size k
theorem wf_u16_bd {a : Int} (h : (Lit.int .u16 a).wf = true) : 0 ≤ a ∧ a ≤ 65535 := by
  simp only [Lit.wf, Bool.and_eq_true, decide_eq_true_eq] at h
  exact ⟨h.1, h.2⟩

set_option maxHeartbeats 32000000 in
set_option maxRecDepth 100000 in
theorem MeterTruth_calls (m : S25) (st : Int) (A2 : Option Addr) (c2 : Nat) (sh : List Int) (A3 : Option Addr) (c3 : Nat) (sl : List Int) (A4 : Option Addr) (c4 : Nat) (rd : List Bool) (d : S23) (w : World)
    (hr2 : (Kd.int .u16).C w A2 sh.length sh) (hc2 : sh.length ≤ c2) (hr3 : (Kd.int .u8).C w A3 sl.length sl) (hc3 : sl.length ≤ c3) (hr4 : Kd.bool.C w A4 rd.length rd) (hc4 : rd.length ≤ c4)
    (wm : wfM m) (wst : (Lit.int .u16 st).wf = true) (wsh : sh.length ≤ maxLen ∧ ∀ x ∈ sh, (Lit.int .u16 x).wf = true) (wsl : sl.length ≤ maxLen ∧ ∀ x ∈ sl, (Lit.int .u8 x).wf = true) (wrd : rd.length ≤ maxLen ∧ ∀ x ∈ rd, True) (ws : wfSpan d) (hg : Gl w) :
    Calls Tryd.prog 5 #[.agg #[.int .i64 m.f0, .int .i64 m.f1, .int .i64 m.f2, .int .i64 m.f3, .int .i64 m.f4.f0, .int .i64 m.f4.f1], .int .u16 st, .slice A2 sh.length c2, .slice A3 sl.length c3, .slice A4 rd.length c4, .agg #[.int .i64 d.f0, .int .i64 d.f1]] w fun e w' => e = .returned (.bool true) ∧ Below w.heap.size w w' := by
  have hu25 := Tryd.underlying25
  have hu23 := Tryd.underlying23
  have hu36 := Tryd.underlying36
  have hu53 := Tryd.underlying53
  have hst := wf_u16_bd wst
  have HR2 := Aside0.mk hr2
  have HR3 := Aside0.mk hr3
  have HR4 := Aside0.mk hr4
  have HGl := Aside0.mk hg
  have HB := Aside0.mk (below_alloc (below_alloc (Below.refl w.heap.size w) (.cells #[.int .i64 m.f0, .int .i64 m.f1, .int .i64 m.f2, .int .i64 m.f3, .int .i64 m.f4.f0, .int .i64 m.f4.f1] 25)) (.cells #[.int .i64 d.f0, .int .i64 d.f1] 23))
  have BM := Aside0.mk (blk_alloc (blk_new w (.cells #[.int .i64 m.f0, .int .i64 m.f1, .int .i64 m.f2, .int .i64 m.f3, .int .i64 m.f4.f0, .int .i64 m.f4.f1] 25)) (.cells #[.int .i64 d.f0, .int .i64 d.f1] 23))
  have BD := Aside0.mk (blk_p1 w (.cells #[.int .i64 m.f0, .int .i64 m.f1, .int .i64 m.f2, .int .i64 m.f3, .int .i64 m.f4.f0, .int .i64 m.f4.f1] 25) (.cells #[.int .i64 d.f0, .int .i64 d.f1] 23))
  by_cases hok : okMade m sh.length = true
  · have H := okMade_hist hst hok
    have HMade := Aside0.mk (fun W a b c => made_ok m st A2 c2 sh A3 c3 sl A4 c4 rd W a hc2 b hc3 c hc4 hst (fun x hx => wf_u16_bd (wsh.2 x hx)) (fun x hx => wf_u8_bd (wsl.2 x hx)) wsl.1 wrd.1 hok)
    clear hr2 hr3 hr4 hg hok wm wst wsh wsl wrd
    by_cases hs : stretchB d.f0 d.f1 = true
    · have HSt := Aside0.mk hs
      have hdd := stretchB_iff.1 hs
      have hv := validM_bd H.v
      have hvm : (1 ≤ (hM m sh.length).f2 ∧ (hM m sh.length).f2 ≤ 10000) ∧ (0 ≤ (hM m sh.length).f3 ∧ (hM m sh.length).f3 ≤ 100) := ⟨hv.2.2.1, hv.2.2.2.1⟩
      have hv4 : 0 ≤ m.f4.f0 ∧ m.f4.f0 ≤ 36525 := by
        have e1 : (hM m sh.length).f4.f0 = m.f4.f0 := rfl
        rw [e1] at hv; omega
      rcases hist_bounds H sh rd hs with ⟨hB, _⟩ | ⟨hB, _⟩
      · have HT := Aside0.mk (pAll_truth hvm.1 hvm.2 hdd.2.1 st sh sl rd sh.length)
        have HBnd : Aside0 (∀ W A k, Kd.C k43 W A (rowR (hM m sh.length) st sh rd (sh.length + 1)).length (rowR (hM m sh.length) st sh rd (sh.length + 1)) → (rowR (hM m sh.length) st sh rd (sh.length + 1)).length ≤ k → Gl W →
            Calls Tryd.prog 18 #[.agg #[.int .i64 m.f0, .int .i64 m.f1, .int .i64 m.f2, .int .i64 m.f3, .int .i64 m.f4.f0, .int .i64 (m.f4.f0 + sh.length)], .slice A (rowR (hM m sh.length) st sh rd (sh.length + 1)).length k, .agg #[.int .i64 d.f0, .int .i64 d.f1], .int .i64 0] W fun e w' => e = .returned (.tuple #[.agg #[.int .i64 (sumP (hM m sh.length) d (pAll (hM m sh.length) st sh rd sh.length)).1, .int .i64 (sumP (hM m sh.length) d (pAll (hM m sh.length) st sh rd sh.length)).2], .int .i64 0]) ∧ Below W.heap.size W w') :=
          ⟨fun W A k h1 h2 h3 => (meter_Bounds_calls (hM m sh.length) A k _ d 0 W h1 h2 h3).mono fun e w' h => ⟨by rw [h.1, hB], h.2⟩⟩
        have HCI := Aside0.mk (cI_bd hvm.1 hvm.2 d sh sl)
        have HCA := Aside0.mk (cAt_le hvm.1 hvm.2 sh sl)
        have hn := H.n1
        clear hB hv hvm hs H
        generalize (sumP (hM m sh.length) d (pAll (hM m sh.length) st sh rd sh.length)).1 = lo at *
        generalize (sumP (hM m sh.length) d (pAll (hM m sh.length) st sh rd sh.length)).2 = hi at *
        go_enter Tryd.func5, Tryd.ntmps5
        go_upto_region 8 with (first
          | (go_at_call 11; (with_reducible refine (head_calls _ (HGl.out.below HB.out)).mono ?_); rintro e w1 ⟨rfl, hb⟩; replace HB := Aside0.mk (below_step HB.out hb); replace BM := Aside0.mk (blk_below BM.out hb); replace BD := Aside0.mk (blk_below BD.out hb); have z0 : w1.cell? ⟨w.heap.size, 0, none⟩ = some (.int .i64 m.f0) := (blk_cell BM.out 0).trans rfl; have z1 : w1.cell? ⟨w.heap.size, 1, none⟩ = some (.int .i64 m.f1) := (blk_cell BM.out 1).trans rfl; have z2 : w1.cell? ⟨w.heap.size, 2, none⟩ = some (.int .i64 m.f2) := (blk_cell BM.out 2).trans rfl; have z3 : w1.cell? ⟨w.heap.size, 3, none⟩ = some (.int .i64 m.f3) := (blk_cell BM.out 3).trans rfl; have z4 : w1.cell? ⟨w.heap.size, 4, none⟩ = some (.int .i64 m.f4.f0) := (blk_cell BM.out 4).trans rfl; have z5 : w1.cell? ⟨w.heap.size, 5, none⟩ = some (.int .i64 m.f4.f1) := (blk_cell BM.out 5).trans rfl; clear hb)
          | (go_at_call 22; (with_reducible refine (HMade.out _ (Kd.C_below HR2.out HB.out) (Kd.C_below HR3.out HB.out) (Kd.C_below HR4.out HB.out)).mono ?_); rintro e w2 ⟨A5, k5, A6, k6, A7, k7, A8, k8, rfl, hC, hb⟩; have HC := Aside0.mk hC; clear hC; replace HB := Aside0.mk (below_step HB.out hb); replace BM := Aside0.mk (blk_below BM.out hb); replace BD := Aside0.mk (blk_below BD.out hb); have d0 : (w2.alloc (.cells #[.int .i64 m.f0, .int .i64 m.f1, .int .i64 m.f2, .int .i64 m.f3, .int .i64 m.f4.f0, .int .i64 (m.f4.f0 + sh.length), .slice A5 sh.length k5, .slice A6 sh.length k6, .slice A7 (rowR (hM m sh.length) st sh rd (sh.length + 1)).length k7, .slice A8 (sh.length + 1) k8] 53)).cell? ⟨w.heap.size + 1, 0, none⟩ = some (.int .i64 d.f0) := (blk_cell (blk_alloc BD.out _) 0).trans rfl; have d1 : (w2.alloc (.cells #[.int .i64 m.f0, .int .i64 m.f1, .int .i64 m.f2, .int .i64 m.f3, .int .i64 m.f4.f0, .int .i64 (m.f4.f0 + sh.length), .slice A5 sh.length k5, .slice A6 sh.length k6, .slice A7 (rowR (hM m sh.length) st sh rd (sh.length + 1)).length k7, .slice A8 (sh.length + 1) k8] 53)).cell? ⟨w.heap.size + 1, 1, none⟩ = some (.int .i64 d.f1) := (blk_cell (blk_alloc BD.out _) 1).trans rfl; clear hb)
          | (go_at_call 23; (with_reducible refine (rstretch_calls d.f0 d.f1 true HSt.out _).mono ?_); rintro e w3 ⟨rfl, hb⟩; replace HB := Aside0.mk (below_step (below_alloc HB.out _) hb); replace BM := Aside0.mk (blk_below (blk_alloc BM.out _) hb); replace BD := Aside0.mk (blk_below (blk_alloc BD.out _) hb); have BH : Aside0 (w3.heap[w2.heap.size]? = some (.cells #[.int .i64 m.f0, .int .i64 m.f1, .int .i64 m.f2, .int .i64 m.f3, .int .i64 m.f4.f0, .int .i64 (m.f4.f0 + sh.length), .slice A5 sh.length k5, .slice A6 sh.length k6, .slice A7 (rowR (hM m sh.length) st sh rd (sh.length + 1)).length k7, .slice A8 (sh.length + 1) k8] 53 (0, 0))) := ⟨blk_below (blk_new w2 _) hb⟩; have HX := Aside0.mk (below_t (below_alloc (Below.refl _ _) _) hb); have h0 : w3.cell? ⟨w2.heap.size, 0, none⟩ = some (.int .i64 m.f0) := (blk_cell BH.out 0).trans rfl; have h1 : w3.cell? ⟨w2.heap.size, 1, none⟩ = some (.int .i64 m.f1) := (blk_cell BH.out 1).trans rfl; have h2 : w3.cell? ⟨w2.heap.size, 2, none⟩ = some (.int .i64 m.f2) := (blk_cell BH.out 2).trans rfl; have h3 : w3.cell? ⟨w2.heap.size, 3, none⟩ = some (.int .i64 m.f3) := (blk_cell BH.out 3).trans rfl; have h4 : w3.cell? ⟨w2.heap.size, 4, none⟩ = some (.int .i64 m.f4.f0) := (blk_cell BH.out 4).trans rfl; have h5 : w3.cell? ⟨w2.heap.size, 5, none⟩ = some (.int .i64 (m.f4.f0 + sh.length)) := (blk_cell BH.out 5).trans rfl; have h6 : w3.cell? ⟨w2.heap.size, 6, none⟩ = some (.slice A5 sh.length k5) := (blk_cell BH.out 6).trans rfl; have h7 : w3.cell? ⟨w2.heap.size, 7, none⟩ = some (.slice A6 sh.length k6) := (blk_cell BH.out 7).trans rfl; have h8 : w3.cell? ⟨w2.heap.size, 8, none⟩ = some (.slice A7 (rowR (hM m sh.length) st sh rd (sh.length + 1)).length k7) := (blk_cell BH.out 8).trans rfl; have h9 : w3.cell? ⟨w2.heap.size, 9, none⟩ = some (.slice A8 (sh.length + 1) k8) := (blk_cell BH.out 9).trans rfl; have d0 : w3.cell? ⟨w.heap.size + 1, 0, none⟩ = some (.int .i64 d.f0) := (blk_cell BD.out 0).trans rfl; have d1 : w3.cell? ⟨w.heap.size + 1, 1, none⟩ = some (.int .i64 d.f1) := (blk_cell BD.out 1).trans rfl; clear hb)
          | (go_at_call 18; (with_reducible refine (HBnd.out _ A7 k7 (Kd.C_below HC.out.2.2.1 HX.out) HC.out.2.2.2.1 (HGl.out.below HB.out)).mono ?_); rintro e w4 ⟨rfl, hb⟩; replace HB := Aside0.mk (below_step HB.out hb); replace BD := Aside0.mk (blk_below BD.out hb); replace BH := Aside0.mk (blk_below BH.out hb); replace HX := Aside0.mk (below_t HX.out hb); clear hb))
        have c6 := Aside0.mk (Kd.C_below HC.out.2.1 (below_alloc HX.out (.cells #[.int .i64 lo, .int .i64 hi] 36)))
        have HBf := Aside0.mk (below_alloc HB.out (.cells #[.int .i64 lo, .int .i64 hi] 36))
        have h4 : (w4.alloc (.cells #[.int .i64 lo, .int .i64 hi] 36)).cell? ⟨w2.heap.size, 4, none⟩ = some (.int .i64 m.f4.f0) := (blk_cell (blk_alloc BH.out _) 4).trans rfl
        have h7 : (w4.alloc (.cells #[.int .i64 lo, .int .i64 hi] 36)).cell? ⟨w2.heap.size, 7, none⟩ = some (.slice A6 sh.length k6) := (blk_cell (blk_alloc BH.out _) 7).trans rfl
        have y0 : (w4.alloc (.cells #[.int .i64 lo, .int .i64 hi] 36)).cell? ⟨w.heap.size + 1, 0, none⟩ = some (.int .i64 d.f0) := (blk_cell (blk_alloc BD.out _) 0).trans rfl
        have y1 : (w4.alloc (.cells #[.int .i64 lo, .int .i64 hi] 36)).cell? ⟨w.heap.size + 1, 1, none⟩ = some (.int .i64 d.f1) := (blk_cell (blk_alloc BD.out _) 1).trans rfl
        have r0 : (w4.alloc (.cells #[.int .i64 lo, .int .i64 hi] 36)).cell? ⟨w4.heap.size, 0, none⟩ = some (.int .i64 lo) := (blk_cell (blk_new w4 _) 0).trans rfl
        have r1 : (w4.alloc (.cells #[.int .i64 lo, .int .i64 hi] 36)).cell? ⟨w4.heap.size, 1, none⟩ = some (.int .i64 hi) := (blk_cell (blk_new w4 _) 1).trans rfl
        clear z0 z1 z2 z3 z4 z5 d0 d1 h0 h1 h2 h3 h5 h6 h8 h9 HR2 HR3 HR4 HC HMade HBnd HX BM BD BH HB
        generalize (w4.alloc (.cells #[.int .i64 lo, .int .i64 hi] 36)) = W0 at *
        go_wp2
        go_loopg [18, 59] sh.length (fun gk v18 v59 w' => ∃ i : Nat, v18 = .int .i64 (cI (hM m sh.length) d sh sl i) ∧ v59 = .int .i64 i ∧ Aside0 (i ≤ sh.length ∧ gk = sh.length - i) ∧ w' = W0)
        case atStart => exact ⟨0, rfl, rfl, ⟨Nat.zero_le _, rfl⟩, rfl⟩
        case round =>
          obtain ⟨i, rfl, rfl, HK, rfl⟩ := hrel
          have hik := HK.out.1
          by_cases hlt : i < sh.length
          · obtain ⟨ad, e6, x6⟩ := Kd.at_int c6.out (i : Int) (by omega) (by omega)
            subst e6
            simp only [Int.toNat_natCast] at x6
            rw [show Go.Proofs.YtknfkibnocfjiaaDoorW.PrintWords.rd ((List.range sh.length).map (cAt (hM m sh.length) sh sl)) (i : Int) = cAt (hM m sh.length) sh sl i by show List.getD _ (Int.toNat (i : Int)) 0 = _; rw [Int.toNat_natCast, List.getD_eq_getElem?_getD, List.getElem?_map, List.getElem?_range hlt]; rfl] at x6
            have j0 : 0 ≤ (i : Int) := by omega
            have j1 : (i : Int) < (sh.length : Int) := by omega
            have g0 : decide ((i : Int) < (sh.length : Int)) = true := decide_eq_true j1
            have hw1 : IntKind.i64.wrap (m.f4.f0 + (i : Int)) = m.f4.f0 + (i : Int) := Go.IntWalk.i64_in _ (by omega)
            have hw2 : IntKind.i64.wrap ((i : Int) + 1) = (i : Int) + 1 := Go.IntWalk.i64_in _ (by omega)
            have hc1 := HCI.out i
            have hc2 := HCA.out i
            have HS : Aside0 (cI (hM m sh.length) d sh sl (i + 1) = cI (hM m sh.length) d sh sl i + if inD (hM m sh.length) d i = true then cAt (hM m sh.length) sh sl i else 0) := ⟨rfl⟩
            have HIn : Aside0 (inD (hM m sh.length) d i = (decide (d.f0 ≤ m.f4.f0 + (i : Int)) && decide (m.f4.f0 + (i : Int) < d.f1))) := ⟨rfl⟩
            have hw3 : IntKind.i64.wrap (cI (hM m sh.length) d sh sl i + cAt (hM m sh.length) sh sl i) = cI (hM m sh.length) d sh sl i + cAt (hM m sh.length) sh sl i := Go.IntWalk.i64_in _ (by omega)
            generalize cAt (hM m sh.length) sh sl i = cc at *
            generalize hca : cI (hM m sh.length) d sh sl i = ca at *
            by_cases p1 : d.f0 ≤ m.f4.f0 + (i : Int)
            · have q1 : decide (d.f0 ≤ m.f4.f0 + (i : Int)) = true := decide_eq_true p1
              by_cases p2 : m.f4.f0 + (i : Int) < d.f1
              · have q2 : decide (m.f4.f0 + (i : Int) < d.f1) = true := decide_eq_true p2
                have HS2 : Aside0 (cI (hM m sh.length) d sh sl (i + 1) = ca + cc) := ⟨by rw [HS.out, HIn.out, q1, q2]; rfl⟩
                clear HS HIn p1 p2 hca
                go_wp2
                go_roundg (sh.length - (i + 1))
                case measure => have := HK.out; omega
                case rel => exact ⟨i + 1, by rw [HS2.out], by go_num, ⟨by omega, rfl⟩, rfl⟩
              · have q2 : decide (m.f4.f0 + (i : Int) < d.f1) = false := decide_eq_false p2
                have HS2 : Aside0 (cI (hM m sh.length) d sh sl (i + 1) = ca) := ⟨by rw [HS.out, HIn.out, q1, q2]; simp⟩
                clear HS HIn p1 p2 hca
                go_wp2
                go_roundg (sh.length - (i + 1))
                case measure => have := HK.out; omega
                case rel => exact ⟨i + 1, by rw [HS2.out], by go_num, ⟨by omega, rfl⟩, rfl⟩
            · have q1 : decide (d.f0 ≤ m.f4.f0 + (i : Int)) = false := decide_eq_false p1
              have HS2 : Aside0 (cI (hM m sh.length) d sh sl (i + 1) = ca) := ⟨by rw [HS.out, HIn.out, q1]; simp⟩
              clear HS HIn p1 hca
              go_wp2
              go_roundg (sh.length - (i + 1))
              case measure => have := HK.out; omega
              case rel => exact ⟨i + 1, by rw [HS2.out], by go_num, ⟨by omega, rfl⟩, rfl⟩
          · obtain rfl : i = sh.length := by omega
            have ht := HT.out
            generalize cI (hM m sh.length) d sh sl sh.length = ca at *
            have q1 : decide (lo ≤ ca) = true := decide_eq_true ht.1
            have q2 : decide (ca ≤ hi) = true := decide_eq_true ht.2
            clear ht HT
            go_wp2
            go_ret
            exact ⟨rfl, HBf.out⟩
      · generalize hq : boundsL (hM m sh.length) (rowR (hM m sh.length) st sh rd (sh.length + 1)) d 0 = q at *
        obtain ⟨⟨q1, q2⟩, q3⟩ := q
        simp only at hB
        subst hB
        have HBnd : Aside0 (∀ W A k, Kd.C k43 W A (rowR (hM m sh.length) st sh rd (sh.length + 1)).length (rowR (hM m sh.length) st sh rd (sh.length + 1)) → (rowR (hM m sh.length) st sh rd (sh.length + 1)).length ≤ k → Gl W →
            Calls Tryd.prog 18 #[.agg #[.int .i64 m.f0, .int .i64 m.f1, .int .i64 m.f2, .int .i64 m.f3, .int .i64 m.f4.f0, .int .i64 (m.f4.f0 + sh.length)], .slice A (rowR (hM m sh.length) st sh rd (sh.length + 1)).length k, .agg #[.int .i64 d.f0, .int .i64 d.f1], .int .i64 0] W fun e w' => e = .returned (.tuple #[.agg #[.int .i64 q1, .int .i64 q2], .int .i64 3]) ∧ Below W.heap.size W w') :=
          ⟨fun W A k h1 h2 h3 => (meter_Bounds_calls (hM m sh.length) A k _ d 0 W h1 h2 h3).mono fun e w' h => ⟨by rw [h.1, hq], h.2⟩⟩
        clear hq hv hvm hs H
        go_enter Tryd.func5, Tryd.ntmps5
        go_wp2_with (first
          | (go_at_call 11; (with_reducible refine (head_calls _ (HGl.out.below HB.out)).mono ?_); rintro e w1 ⟨rfl, hb⟩; replace HB := Aside0.mk (below_step HB.out hb); replace BM := Aside0.mk (blk_below BM.out hb); replace BD := Aside0.mk (blk_below BD.out hb); have z0 : w1.cell? ⟨w.heap.size, 0, none⟩ = some (.int .i64 m.f0) := (blk_cell BM.out 0).trans rfl; have z1 : w1.cell? ⟨w.heap.size, 1, none⟩ = some (.int .i64 m.f1) := (blk_cell BM.out 1).trans rfl; have z2 : w1.cell? ⟨w.heap.size, 2, none⟩ = some (.int .i64 m.f2) := (blk_cell BM.out 2).trans rfl; have z3 : w1.cell? ⟨w.heap.size, 3, none⟩ = some (.int .i64 m.f3) := (blk_cell BM.out 3).trans rfl; have z4 : w1.cell? ⟨w.heap.size, 4, none⟩ = some (.int .i64 m.f4.f0) := (blk_cell BM.out 4).trans rfl; have z5 : w1.cell? ⟨w.heap.size, 5, none⟩ = some (.int .i64 m.f4.f1) := (blk_cell BM.out 5).trans rfl; clear hb)
          | (go_at_call 22; (with_reducible refine (HMade.out _ (Kd.C_below HR2.out HB.out) (Kd.C_below HR3.out HB.out) (Kd.C_below HR4.out HB.out)).mono ?_); rintro e w2 ⟨A5, k5, A6, k6, A7, k7, A8, k8, rfl, hC, hb⟩; have HC := Aside0.mk hC; clear hC; replace HB := Aside0.mk (below_step HB.out hb); replace BM := Aside0.mk (blk_below BM.out hb); replace BD := Aside0.mk (blk_below BD.out hb); have d0 : (w2.alloc (.cells #[.int .i64 m.f0, .int .i64 m.f1, .int .i64 m.f2, .int .i64 m.f3, .int .i64 m.f4.f0, .int .i64 (m.f4.f0 + sh.length), .slice A5 sh.length k5, .slice A6 sh.length k6, .slice A7 (rowR (hM m sh.length) st sh rd (sh.length + 1)).length k7, .slice A8 (sh.length + 1) k8] 53)).cell? ⟨w.heap.size + 1, 0, none⟩ = some (.int .i64 d.f0) := (blk_cell (blk_alloc BD.out _) 0).trans rfl; have d1 : (w2.alloc (.cells #[.int .i64 m.f0, .int .i64 m.f1, .int .i64 m.f2, .int .i64 m.f3, .int .i64 m.f4.f0, .int .i64 (m.f4.f0 + sh.length), .slice A5 sh.length k5, .slice A6 sh.length k6, .slice A7 (rowR (hM m sh.length) st sh rd (sh.length + 1)).length k7, .slice A8 (sh.length + 1) k8] 53)).cell? ⟨w.heap.size + 1, 1, none⟩ = some (.int .i64 d.f1) := (blk_cell (blk_alloc BD.out _) 1).trans rfl; clear hb)
          | (go_at_call 23; (with_reducible refine (rstretch_calls d.f0 d.f1 true HSt.out _).mono ?_); rintro e w3 ⟨rfl, hb⟩; replace HB := Aside0.mk (below_step (below_alloc HB.out _) hb); replace BM := Aside0.mk (blk_below (blk_alloc BM.out _) hb); replace BD := Aside0.mk (blk_below (blk_alloc BD.out _) hb); have BH : Aside0 (w3.heap[w2.heap.size]? = some (.cells #[.int .i64 m.f0, .int .i64 m.f1, .int .i64 m.f2, .int .i64 m.f3, .int .i64 m.f4.f0, .int .i64 (m.f4.f0 + sh.length), .slice A5 sh.length k5, .slice A6 sh.length k6, .slice A7 (rowR (hM m sh.length) st sh rd (sh.length + 1)).length k7, .slice A8 (sh.length + 1) k8] 53 (0, 0))) := ⟨blk_below (blk_new w2 _) hb⟩; have HX := Aside0.mk (below_t (below_alloc (Below.refl _ _) _) hb); have h0 : w3.cell? ⟨w2.heap.size, 0, none⟩ = some (.int .i64 m.f0) := (blk_cell BH.out 0).trans rfl; have h1 : w3.cell? ⟨w2.heap.size, 1, none⟩ = some (.int .i64 m.f1) := (blk_cell BH.out 1).trans rfl; have h2 : w3.cell? ⟨w2.heap.size, 2, none⟩ = some (.int .i64 m.f2) := (blk_cell BH.out 2).trans rfl; have h3 : w3.cell? ⟨w2.heap.size, 3, none⟩ = some (.int .i64 m.f3) := (blk_cell BH.out 3).trans rfl; have h4 : w3.cell? ⟨w2.heap.size, 4, none⟩ = some (.int .i64 m.f4.f0) := (blk_cell BH.out 4).trans rfl; have h5 : w3.cell? ⟨w2.heap.size, 5, none⟩ = some (.int .i64 (m.f4.f0 + sh.length)) := (blk_cell BH.out 5).trans rfl; have h6 : w3.cell? ⟨w2.heap.size, 6, none⟩ = some (.slice A5 sh.length k5) := (blk_cell BH.out 6).trans rfl; have h7 : w3.cell? ⟨w2.heap.size, 7, none⟩ = some (.slice A6 sh.length k6) := (blk_cell BH.out 7).trans rfl; have h8 : w3.cell? ⟨w2.heap.size, 8, none⟩ = some (.slice A7 (rowR (hM m sh.length) st sh rd (sh.length + 1)).length k7) := (blk_cell BH.out 8).trans rfl; have h9 : w3.cell? ⟨w2.heap.size, 9, none⟩ = some (.slice A8 (sh.length + 1) k8) := (blk_cell BH.out 9).trans rfl; have d0 : w3.cell? ⟨w.heap.size + 1, 0, none⟩ = some (.int .i64 d.f0) := (blk_cell BD.out 0).trans rfl; have d1 : w3.cell? ⟨w.heap.size + 1, 1, none⟩ = some (.int .i64 d.f1) := (blk_cell BD.out 1).trans rfl; clear hb)
          | (go_at_call 18; (with_reducible refine (HBnd.out _ A7 k7 (Kd.C_below HC.out.2.2.1 HX.out) HC.out.2.2.2.1 (HGl.out.below HB.out)).mono ?_); rintro e w4 ⟨rfl, hb⟩; replace HB := Aside0.mk (below_step HB.out hb); replace BD := Aside0.mk (blk_below BD.out hb); replace BH := Aside0.mk (blk_below BH.out hb); replace HX := Aside0.mk (below_t HX.out hb); clear hb))
        go_ret
        exact ⟨rfl, below_alloc HB.out _⟩
    · rw [Bool.not_eq_true] at hs
      have HSt := Aside0.mk hs
      clear hs H
      go_enter Tryd.func5, Tryd.ntmps5
      go_wp2_with (first
        | (go_at_call 11; (with_reducible refine (head_calls _ (HGl.out.below HB.out)).mono ?_); rintro e w1 ⟨rfl, hb⟩; replace HB := Aside0.mk (below_step HB.out hb); replace BM := Aside0.mk (blk_below BM.out hb); replace BD := Aside0.mk (blk_below BD.out hb); have z0 : w1.cell? ⟨w.heap.size, 0, none⟩ = some (.int .i64 m.f0) := (blk_cell BM.out 0).trans rfl; have z1 : w1.cell? ⟨w.heap.size, 1, none⟩ = some (.int .i64 m.f1) := (blk_cell BM.out 1).trans rfl; have z2 : w1.cell? ⟨w.heap.size, 2, none⟩ = some (.int .i64 m.f2) := (blk_cell BM.out 2).trans rfl; have z3 : w1.cell? ⟨w.heap.size, 3, none⟩ = some (.int .i64 m.f3) := (blk_cell BM.out 3).trans rfl; have z4 : w1.cell? ⟨w.heap.size, 4, none⟩ = some (.int .i64 m.f4.f0) := (blk_cell BM.out 4).trans rfl; have z5 : w1.cell? ⟨w.heap.size, 5, none⟩ = some (.int .i64 m.f4.f1) := (blk_cell BM.out 5).trans rfl; clear hb)
        | (go_at_call 22; (with_reducible refine (HMade.out _ (Kd.C_below HR2.out HB.out) (Kd.C_below HR3.out HB.out) (Kd.C_below HR4.out HB.out)).mono ?_); rintro e w2 ⟨A5, k5, A6, k6, A7, k7, A8, k8, rfl, hC, hb⟩; have HC := Aside0.mk hC; clear hC; replace HB := Aside0.mk (below_step HB.out hb); replace BM := Aside0.mk (blk_below BM.out hb); replace BD := Aside0.mk (blk_below BD.out hb); have d0 : (w2.alloc (.cells #[.int .i64 m.f0, .int .i64 m.f1, .int .i64 m.f2, .int .i64 m.f3, .int .i64 m.f4.f0, .int .i64 (m.f4.f0 + sh.length), .slice A5 sh.length k5, .slice A6 sh.length k6, .slice A7 (rowR (hM m sh.length) st sh rd (sh.length + 1)).length k7, .slice A8 (sh.length + 1) k8] 53)).cell? ⟨w.heap.size + 1, 0, none⟩ = some (.int .i64 d.f0) := (blk_cell (blk_alloc BD.out _) 0).trans rfl; have d1 : (w2.alloc (.cells #[.int .i64 m.f0, .int .i64 m.f1, .int .i64 m.f2, .int .i64 m.f3, .int .i64 m.f4.f0, .int .i64 (m.f4.f0 + sh.length), .slice A5 sh.length k5, .slice A6 sh.length k6, .slice A7 (rowR (hM m sh.length) st sh rd (sh.length + 1)).length k7, .slice A8 (sh.length + 1) k8] 53)).cell? ⟨w.heap.size + 1, 1, none⟩ = some (.int .i64 d.f1) := (blk_cell (blk_alloc BD.out _) 1).trans rfl; clear hb)
        | (go_at_call 23; (with_reducible refine (rstretch_calls d.f0 d.f1 false HSt.out _).mono ?_); rintro e w3 ⟨rfl, hb⟩; replace HB := Aside0.mk (below_step (below_alloc HB.out _) hb); replace BM := Aside0.mk (blk_below (blk_alloc BM.out _) hb); replace BD := Aside0.mk (blk_below (blk_alloc BD.out _) hb); have BH : Aside0 (w3.heap[w2.heap.size]? = some (.cells #[.int .i64 m.f0, .int .i64 m.f1, .int .i64 m.f2, .int .i64 m.f3, .int .i64 m.f4.f0, .int .i64 (m.f4.f0 + sh.length), .slice A5 sh.length k5, .slice A6 sh.length k6, .slice A7 (rowR (hM m sh.length) st sh rd (sh.length + 1)).length k7, .slice A8 (sh.length + 1) k8] 53 (0, 0))) := ⟨blk_below (blk_new w2 _) hb⟩; have HX := Aside0.mk (below_t (below_alloc (Below.refl _ _) _) hb); have h0 : w3.cell? ⟨w2.heap.size, 0, none⟩ = some (.int .i64 m.f0) := (blk_cell BH.out 0).trans rfl; have h1 : w3.cell? ⟨w2.heap.size, 1, none⟩ = some (.int .i64 m.f1) := (blk_cell BH.out 1).trans rfl; have h2 : w3.cell? ⟨w2.heap.size, 2, none⟩ = some (.int .i64 m.f2) := (blk_cell BH.out 2).trans rfl; have h3 : w3.cell? ⟨w2.heap.size, 3, none⟩ = some (.int .i64 m.f3) := (blk_cell BH.out 3).trans rfl; have h4 : w3.cell? ⟨w2.heap.size, 4, none⟩ = some (.int .i64 m.f4.f0) := (blk_cell BH.out 4).trans rfl; have h5 : w3.cell? ⟨w2.heap.size, 5, none⟩ = some (.int .i64 (m.f4.f0 + sh.length)) := (blk_cell BH.out 5).trans rfl; have h6 : w3.cell? ⟨w2.heap.size, 6, none⟩ = some (.slice A5 sh.length k5) := (blk_cell BH.out 6).trans rfl; have h7 : w3.cell? ⟨w2.heap.size, 7, none⟩ = some (.slice A6 sh.length k6) := (blk_cell BH.out 7).trans rfl; have h8 : w3.cell? ⟨w2.heap.size, 8, none⟩ = some (.slice A7 (rowR (hM m sh.length) st sh rd (sh.length + 1)).length k7) := (blk_cell BH.out 8).trans rfl; have h9 : w3.cell? ⟨w2.heap.size, 9, none⟩ = some (.slice A8 (sh.length + 1) k8) := (blk_cell BH.out 9).trans rfl; have d0 : w3.cell? ⟨w.heap.size + 1, 0, none⟩ = some (.int .i64 d.f0) := (blk_cell BD.out 0).trans rfl; have d1 : w3.cell? ⟨w.heap.size + 1, 1, none⟩ = some (.int .i64 d.f1) := (blk_cell BD.out 1).trans rfl; clear hb))
      go_ret
      exact ⟨rfl, HB.out⟩
  · rw [Bool.not_eq_true] at hok
    have HNo : Aside0 (∀ W, Calls Tryd.prog 22 #[.agg #[.int .i64 m.f0, .int .i64 m.f1, .int .i64 m.f2, .int .i64 m.f3, .int .i64 m.f4.f0, .int .i64 m.f4.f1], .int .u16 st, .slice A2 sh.length c2, .slice A3 sl.length c3, .slice A4 rd.length c4] W fun e w' => e = .returned (.tuple #[.agg #[.int .i64 0, .int .i64 0, .int .i64 0, .int .i64 0, .int .i64 0, .int .i64 0, .slice none 0 0, .slice none 0 0, .slice none 0 0, .slice none 0 0], .bool false]) ∧ Below W.heap.size W w') := Aside0.mk (fun W => made_no m st A2 c2 sh.length A3 c3 sl.length A4 c4 rd.length W wm.2.2.2.2.1 wsh.1 hok)
    clear hr2 hr3 hr4 hg hok wm wst wsh wsl wrd
    go_enter Tryd.func5, Tryd.ntmps5
    go_wp2_with (first
      | (go_at_call 11; (with_reducible refine (head_calls _ (HGl.out.below HB.out)).mono ?_); rintro e w1 ⟨rfl, hb⟩; replace HB := Aside0.mk (below_step HB.out hb); replace BM := Aside0.mk (blk_below BM.out hb); replace BD := Aside0.mk (blk_below BD.out hb); have z0 : w1.cell? ⟨w.heap.size, 0, none⟩ = some (.int .i64 m.f0) := (blk_cell BM.out 0).trans rfl; have z1 : w1.cell? ⟨w.heap.size, 1, none⟩ = some (.int .i64 m.f1) := (blk_cell BM.out 1).trans rfl; have z2 : w1.cell? ⟨w.heap.size, 2, none⟩ = some (.int .i64 m.f2) := (blk_cell BM.out 2).trans rfl; have z3 : w1.cell? ⟨w.heap.size, 3, none⟩ = some (.int .i64 m.f3) := (blk_cell BM.out 3).trans rfl; have z4 : w1.cell? ⟨w.heap.size, 4, none⟩ = some (.int .i64 m.f4.f0) := (blk_cell BM.out 4).trans rfl; have z5 : w1.cell? ⟨w.heap.size, 5, none⟩ = some (.int .i64 m.f4.f1) := (blk_cell BM.out 5).trans rfl; clear hb)
      | (go_at_call 22; (with_reducible refine (HNo.out _).mono ?_); rintro e w2 ⟨rfl, hb⟩; replace HB := Aside0.mk (below_step HB.out hb); replace BM := Aside0.mk (blk_below BM.out hb); replace BD := Aside0.mk (blk_below BD.out hb); clear hb))
    go_ret
    exact ⟨rfl, below_alloc HB.out _⟩
end Go.Proofs.YtknfkibnocfjiaaDoor.P
