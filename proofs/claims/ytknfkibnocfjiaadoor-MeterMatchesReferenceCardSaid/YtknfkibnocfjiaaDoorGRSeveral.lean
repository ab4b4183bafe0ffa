/- What Several of the reference implementation computes: severalL. -/
import Derived.Test.YtknfkibnocfjiaaDoorMRSev
import Derived.Test.YtknfkibnocfjiaaDoorGRBounds
namespace Go.Proofs.YtknfkibnocfjiaaDoor.P
open Go.RowKit Go.Proofs.YtknfkibnocfjiaaDoorW.PrintWords Go.Proofs.YtknfkibnocfjiaaDoorW.PrintLast Go.Proofs.YtknfkibnocfjiaaDoorW.PrintMore Go.Proofs.YtknfkibnocfjiaaDoor.M
set_option linter.unusedVariables false
set_option linter.unusedSimpArgs false
/-- What stands in memory behind the entry of Several. -/
structure RS (d : S23) (w W : World) : Prop where
  bD : W.heap[w.heap.size]? = some (.cells #[.int .i64 d.f0, .int .i64 d.f1] 23 (0, 0))
  bR : W.heap[w.heap.size + 1]? = some (.cells #[.int .i64 0, .int .i64 0] 36 (0, 0))
  hb : Below w.heap.size w W
theorem RS.below {d : S23} {w W W2 : World} (h : RS d w W) (hb : Below W.heap.size W W2) : RS d w W2 := ⟨blk_below h.bD hb, blk_below h.bR hb, below_step h.hb hb⟩
theorem RS.start (d : S23) (w : World) : RS d w ((w.alloc (.cells #[.int .i64 d.f0, .int .i64 d.f1] 23)).alloc (.cells #[.int .i64 0, .int .i64 0] 36)) := ⟨blk_alloc (blk_new w (.cells #[.int .i64 d.f0, .int .i64 d.f1] 23)) (.cells #[.int .i64 0, .int .i64 0] 36), blk_p1 w (.cells #[.int .i64 d.f0, .int .i64 d.f1] 23) (.cells #[.int .i64 0, .int .i64 0] 36), below_alloc (below_alloc (Below.refl _ _) _) _⟩
theorem several_valid {l : List S25} {r : List S43} {d : S23} {known : Int} (h : validL l = false) : severalL l r d known = ((0, 0), 1) := by unfold severalL; rw [h]; rfl
theorem several_gap {l : List S25} {r : List S43} {d : S23} {known : Int} {i : Nat} (hi : i < l.length - 1) (h : gapBad l i = true) : severalL l r d known = ((0, 0), 1) := by
  unfold severalL
  by_cases h1 : (validL l && stretchB d.f0 d.f1 && readingsL r && inB known 0 36524) = true
  · rw [if_pos h1, if_pos]
    rw [List.any_eq_true]
    exact ⟨i, List.mem_range.2 hi, h⟩
  · rw [if_neg h1]
theorem several_arg {l : List S25} {r : List S43} {d : S23} {known : Int} (h : ¬ (stretchB d.f0 d.f1 && readingsL r && inB known 0 36524) = true) : severalL l r d known = ((0, 0), 1) := by
  unfold severalL
  rw [if_neg]
  rw [Bool.and_assoc, Bool.and_assoc, ← Bool.and_assoc (stretchB d.f0 d.f1)]
  rw [Bool.and_eq_true]
  exact fun e => h e.2
theorem several_sum {l : List S25} {r : List S43} {d : S23} {known : Int} (hv : validL l = true) (hg : ∀ j : Nat, j < l.length - 1 → gapBad l j = false) (h1 : stretchB d.f0 d.f1 = true) (h2 : readingsL r = true) (h3 : inB known 0 36524 = true) : severalL l r d known = sevF r d known (l.drop 0) (0, 0) := by
  unfold severalL
  rw [hv, h1, h2, h3, if_pos (by rfl : (true && true && true && true) = true), if_neg]
  · rfl
  · rw [List.any_eq_true]
    rintro ⟨j, hj, h⟩
    rw [hg j (List.mem_range.1 hj)] at h
    cases h
set_option maxHeartbeats 32000000 in
set_option maxRecDepth 100000 in
theorem rseveral_calls (AL : Option Addr) (cL : Nat) (l : List S25) (A0 : Option Addr) (c0 : Nat) (r : List S43) (d : S23) (known : Int) (w : World) (hl0 : Kd.C k25 w AL l.length l) (hcl : l.length ≤ cL) (hr0 : Kd.C k43 w A0 r.length r) (hc0 : r.length ≤ c0) :
    Calls Tryd.prog 21 #[.slice AL l.length cL, .slice A0 r.length c0, .agg #[.int .i64 d.f0, .int .i64 d.f1], .int .i64 known] w (BoundsPost w (severalL l r d known)) := by
  have hu43 := Tryd.underlying43
  have hu25 := Tryd.underlying25
  have hu23 := Tryd.underlying23
  have hu36 := Tryd.underlying36
  have HL0 := Aside0.mk hl0
  have HR0 := Aside0.mk hr0
  have HRB := Aside0.mk (RS.start d w)
  have HBnd := Aside0.mk (fun m W h => rbounds_calls m A0 c0 r d known W h hc0)
  cases hv : validL l with
  | false =>
    have HVa := Aside0.mk (fun W h => rvalid_calls AL cL l false hv W h hcl)
    have HE := Aside0.mk (several_valid (r := r) (d := d) (known := known) hv)
    rw [HE.out]
    clear HE hv hl0 hcl hr0 hc0 HBnd
    go_enter Tryd.func21, Tryd.ntmps21
    go_wp2_with (go_at_call 16; (with_reducible refine (HVa.out _ (Kd.C_below HL0.out HRB.out.hb)).mono ?_); rintro e w1 ⟨rfl, hb⟩; replace HRB := Aside0.mk (HRB.out.below hb); have u0 : w1.cell? ⟨w.heap.size, 0, none⟩ = some (.int .i64 d.f0) := (blk_cell (HRB.out).bD 0).trans rfl; have u1 : w1.cell? ⟨w.heap.size, 1, none⟩ = some (.int .i64 d.f1) := (blk_cell (HRB.out).bD 1).trans rfl; have r0 : w1.cell? ⟨w.heap.size + 1, 0, none⟩ = some (.int .i64 0) := (blk_cell (HRB.out).bR 0).trans rfl; have r1 : w1.cell? ⟨w.heap.size + 1, 1, none⟩ = some (.int .i64 0) := (blk_cell (HRB.out).bR 1).trans rfl; have rf0 := blk_frozen (HRB.out).bR 0; have rf1 := blk_frozen (HRB.out).bR 1; clear hb)
    have BRf := blk_put (blk_put HRB.out.bR 0 (.int .i64 0) rfl) 1 (.int .i64 0) rfl
    have q0 := (blk_cell BRf 0).trans rfl
    have q1 := (blk_cell BRf 1).trans rfl
    refine bodyPost_ret (v := .tuple #[.agg #[.int .i64 0, .int .i64 0], .int .i64 1]) ?_ rfl ⟨rfl, below_set (below_set HRB.out.hb (by omega)) (by omega)⟩
    simp [results, Tryd.f21, go_sem, q0, q1]
  | true =>
    have HVa := Aside0.mk (fun W h => rvalid_calls AL cL l true hv W h hcl)
    have hl200 : l.length ≤ 200 := by
      unfold validL at hv
      simp only [Bool.and_eq_true, decide_eq_true_eq] at hv
      exact hv.1
    have HV := Aside0.mk hv
    have HCst := Aside0.mk (fun b (hb : stretchB d.f0 d.f1 = b) => rstretch_calls d.f0 d.f1 b hb)
    have HCrd := Aside0.mk (fun b (hb : readingsL r = b) W h => rreadings_calls A0 c0 r b hb W h hc0)
    have HCdy := Aside0.mk (fun b (hb : inB known 0 36524 = b) => qday_calls known b hb)
    clear hv hl0 hcl hr0 hc0
    go_enter Tryd.func21, Tryd.ntmps21
    go_upto_region 3 with (go_at_call 16; (with_reducible refine (HVa.out _ (Kd.C_below HL0.out HRB.out.hb)).mono ?_); rintro e w1 ⟨rfl, hb⟩; replace HRB := Aside0.mk (HRB.out.below hb); have u0 : w1.cell? ⟨w.heap.size, 0, none⟩ = some (.int .i64 d.f0) := (blk_cell (HRB.out).bD 0).trans rfl; have u1 : w1.cell? ⟨w.heap.size, 1, none⟩ = some (.int .i64 d.f1) := (blk_cell (HRB.out).bD 1).trans rfl; have r0 : w1.cell? ⟨w.heap.size + 1, 0, none⟩ = some (.int .i64 0) := (blk_cell (HRB.out).bR 0).trans rfl; have r1 : w1.cell? ⟨w.heap.size + 1, 1, none⟩ = some (.int .i64 0) := (blk_cell (HRB.out).bR 1).trans rfl; have rf0 := blk_frozen (HRB.out).bR 0; have rf1 := blk_frozen (HRB.out).bR 1; clear hb)
    clear u0 u1 r0 r1 rf0 rf1 HVa
    go_wp2
    go_loopg [10] (l.length - 1) (fun gk v10 w' => ∃ i : Nat, v10 = .int .i64 ((i : Int) + 1) ∧ Aside0 (i ≤ l.length - 1 ∧ gk = l.length - 1 - i) ∧ Aside0 (∀ j : Nat, j < i → gapBad l j = false) ∧ Aside0 (RS d w w'))
    case atStart => exact ⟨0, rfl, ⟨Nat.zero_le _, rfl⟩, ⟨fun j hj => absurd hj (Nat.not_lt_zero j)⟩, HRB⟩
    case round =>
      clear HRB
      obtain ⟨i, rfl, HI, HD, HRB⟩ := hrel
      have hi := HI.out.1
      by_cases hlt : i < l.length - 1
      · obtain ⟨ad, e, x0, x1, x2, x3, x4, x5⟩ := at_T25 (Kd.C_below HL0.out HRB.out.hb) ((i : Nat) : Int) (by omega) (by omega)
        cases e
        obtain ⟨ad', e, y0, y1, y2, y3, y4, y5⟩ := at_T25 (Kd.C_below HL0.out HRB.out.hb) ((i + 1 : Nat) : Int) (by omega) (by omega)
        cases e
        simp only [Int.toNat_natCast] at x5 y4
        clear x0 x1 x2 x3 x4 y0 y1 y2 y3 y5
        have HLT := Aside0.mk hlt
        have j1 : ((i : Int) + 1) < (l.length : Int) := by omega
        have j2 : (i : Int) < (l.length : Int) := by omega
        have j3 : (0 : Int) ≤ (i : Int) := by omega
        have j4 : (0 : Int) ≤ (i : Int) + 1 := by omega
        have hti : ((i : Int) + 1).toNat = i + 1 := by omega
        have g1 : decide ((i : Int) + 1 < (l.length : Int)) = true := decide_eq_true j1
        have hw1 : IntKind.i64.wrap ((i : Int) + 1 + 1) = (i : Int) + 1 + 1 := Go.IntWalk.i64_in _ (by omega)
        have hw5 : IntKind.i64.wrap (i : Int) = (i : Int) := Go.IntWalk.i64_in _ (by omega)
        have HGB : Aside0 (gapBad l i = decide ((rd_T25 l ((i + 1 : Nat) : Int)).f4.f0 < (rd_T25 l (i : Int)).f4.f1)) := ⟨rfl⟩
        generalize (rd_T25 l (i : Int)).f4.f1 = xu at *
        generalize (rd_T25 l ((i + 1 : Nat) : Int)).f4.f0 = yf at *
        clear hlt
        by_cases hgb : yf < xu
        · have e1 : decide (yf < xu) = true := decide_eq_true hgb
          have HE := Aside0.mk (several_gap (r := r) (d := d) (known := known) HLT.out (HGB.out.trans e1))
          have r0 : wr.cell? ⟨w.heap.size + 1, 0, none⟩ = some (.int .i64 0) := (blk_cell (HRB.out).bR 0).trans rfl; have r1 : wr.cell? ⟨w.heap.size + 1, 1, none⟩ = some (.int .i64 0) := (blk_cell (HRB.out).bR 1).trans rfl; have rf0 := blk_frozen (HRB.out).bR 0; have rf1 := blk_frozen (HRB.out).bR 1
          clear hgb HGB HD
          go_upto_region 6 with (fail)
          clear g1
          go_quiet (fail)
          go_wp2
          rw [HE.out]
          have HRBq := Aside0.mk (HRB.out.below (pw_below_drewN (Below.refl _ _) nq))
          have BRf := blk_put (blk_put HRBq.out.bR 0 (.int .i64 0) rfl) 1 (.int .i64 0) rfl
          have q0 := (blk_cell BRf 0).trans rfl
          have q1 := (blk_cell BRf 1).trans rfl
          refine bodyPost_ret (v := .tuple #[.agg #[.int .i64 0, .int .i64 0], .int .i64 1]) ?_ rfl ⟨rfl, below_set (below_set HRBq.out.hb (by omega)) (by omega)⟩
          simp [results, Tryd.f21, go_sem, q0, q1]
        · have e1 : decide (yf < xu) = false := decide_eq_false hgb
          have HD3 : Aside0 (∀ j : Nat, j < i + 1 → gapBad l j = false) := ⟨fun j hj => by
            rcases Nat.lt_or_ge j i with h | h
            · exact HD.out j h
            · obtain rfl : j = i := by omega
              rw [HGB.out]; exact e1⟩
          clear hgb HGB HD
          go_upto_region 6 with (fail)
          clear g1
          go_quiet (fail)
          go_wp2
          go_roundg (l.length - 1 - (i + 1))
          case measure => have := HI.out; have := HLT.out; omega
          case rel => exact ⟨i + 1, by go_num, ⟨by have := HLT.out; omega, rfl⟩, HD3, ⟨HRB.out.below (pw_below_drewN (Below.refl _ _) _)⟩⟩
      · have hie : i = l.length - 1 := by omega
        have g1 : decide ((i : Int) + 1 < (l.length : Int)) = false := decide_eq_false (by omega)
        have hj1 : ¬ ((i : Int) + 1 < (l.length : Int)) := by omega
        have HGap : Aside0 (∀ j : Nat, j < l.length - 1 → gapBad l j = false) := ⟨fun j hj => HD.out j (by omega)⟩
        clear HD HI hlt hi hie
        go_upto_region 8 with (fail)
        clear g1 hj1
        have u0 : wr.cell? ⟨w.heap.size, 0, none⟩ = some (.int .i64 d.f0) := (blk_cell (HRB.out).bD 0).trans rfl; have u1 : wr.cell? ⟨w.heap.size, 1, none⟩ = some (.int .i64 d.f1) := (blk_cell (HRB.out).bD 1).trans rfl; have r0 : wr.cell? ⟨w.heap.size + 1, 0, none⟩ = some (.int .i64 0) := (blk_cell (HRB.out).bR 0).trans rfl; have r1 : wr.cell? ⟨w.heap.size + 1, 1, none⟩ = some (.int .i64 0) := (blk_cell (HRB.out).bR 1).trans rfl; have rf0 := blk_frozen (HRB.out).bR 0; have rf1 := blk_frozen (HRB.out).bR 1
        by_cases hall : (stretchB d.f0 d.f1 && readingsL r && inB known 0 36524) = true
        · simp only [Bool.and_eq_true] at hall
          have HE := Aside0.mk (several_sum (r := r) (d := d) (known := known) HV.out HGap.out hall.1.1 hall.1.2 hall.2)
          have CSt := Aside0.mk (HCst.out true hall.1.1)
          have CRd := Aside0.mk (HCrd.out true hall.1.2)
          have CDy := Aside0.mk (HCdy.out true hall.2)
          generalize hT : severalL l r d known = T at *
          clear hall HCst HCrd HCdy HGap HV hT
          go_upto_region 10 with (first 
          | (go_at_call 23; (with_reducible refine (CSt.out _).mono ?_); rintro e w2 ⟨rfl, hb⟩; replace HRB := Aside0.mk (HRB.out.below hb); have u0 : w2.cell? ⟨w.heap.size, 0, none⟩ = some (.int .i64 d.f0) := (blk_cell (HRB.out).bD 0).trans rfl; have u1 : w2.cell? ⟨w.heap.size, 1, none⟩ = some (.int .i64 d.f1) := (blk_cell (HRB.out).bD 1).trans rfl; have r0 : w2.cell? ⟨w.heap.size + 1, 0, none⟩ = some (.int .i64 0) := (blk_cell (HRB.out).bR 0).trans rfl; have r1 : w2.cell? ⟨w.heap.size + 1, 1, none⟩ = some (.int .i64 0) := (blk_cell (HRB.out).bR 1).trans rfl; have rf0 := blk_frozen (HRB.out).bR 0; have rf1 := blk_frozen (HRB.out).bR 1; clear hb) 
          | (go_at_call 25; (with_reducible refine (CRd.out _ (Kd.C_below HR0.out HRB.out.hb)).mono ?_); rintro e w3 ⟨rfl, hb⟩; replace HRB := Aside0.mk (HRB.out.below hb); have u0 : w3.cell? ⟨w.heap.size, 0, none⟩ = some (.int .i64 d.f0) := (blk_cell (HRB.out).bD 0).trans rfl; have u1 : w3.cell? ⟨w.heap.size, 1, none⟩ = some (.int .i64 d.f1) := (blk_cell (HRB.out).bD 1).trans rfl; have r0 : w3.cell? ⟨w.heap.size + 1, 0, none⟩ = some (.int .i64 0) := (blk_cell (HRB.out).bR 0).trans rfl; have r1 : w3.cell? ⟨w.heap.size + 1, 1, none⟩ = some (.int .i64 0) := (blk_cell (HRB.out).bR 1).trans rfl; have rf0 := blk_frozen (HRB.out).bR 0; have rf1 := blk_frozen (HRB.out).bR 1; clear hb) 
          | (go_at_call 32; (with_reducible refine (CDy.out _).mono ?_); rintro e w4 ⟨rfl, hb⟩; replace HRB := Aside0.mk (HRB.out.below hb); have u0 : w4.cell? ⟨w.heap.size, 0, none⟩ = some (.int .i64 d.f0) := (blk_cell (HRB.out).bD 0).trans rfl; have u1 : w4.cell? ⟨w.heap.size, 1, none⟩ = some (.int .i64 d.f1) := (blk_cell (HRB.out).bD 1).trans rfl; have r0 : w4.cell? ⟨w.heap.size + 1, 0, none⟩ = some (.int .i64 0) := (blk_cell (HRB.out).bR 0).trans rfl; have r1 : w4.cell? ⟨w.heap.size + 1, 1, none⟩ = some (.int .i64 0) := (blk_cell (HRB.out).bR 1).trans rfl; have rf0 := blk_frozen (HRB.out).bR 0; have rf1 := blk_frozen (HRB.out).bR 1; clear hb))
          clear u0 u1 r0 r1 rf0 rf1 CSt CRd CDy
          obtain ⟨wz, rfl⟩ : ∃ wz : World, wz = w4 := ⟨_, rfl⟩
          have HFz : Aside0 (∀ W, Below wz.heap.size wz W → RS d w W) := ⟨fun W h => HRB.out.below h⟩
          go_wp2
          go_loopg [12] l.length (fun gk v12 w' => ∃ (i : Nat) (s : Int × Int), v12 = .int .i64 (i : Int) ∧ Aside0 (i ≤ l.length ∧ gk = l.length - i) ∧ Aside0 (w'.heap[wz.heap.size]? = some (.cells #[.int .i64 s.1, .int .i64 s.2] 36 (0, 0))) ∧ Aside0 (T = sevF r d known (l.drop i) s) ∧ Aside0 (Below wz.heap.size wz w'))
          case atStart => exact ⟨0, (0, 0), rfl, ⟨Nat.zero_le _, rfl⟩, ⟨by first | exact blk_new _ _ | exact blk_put (blk_put (blk_new _ _) 0 _ rfl) 1 _ rfl⟩, HE, ⟨by first | exact below_alloc (Below.refl _ _) _ | exact below_set (below_set (below_alloc (Below.refl _ _) _) (Nat.le_refl _)) (Nat.le_refl _)⟩⟩
          case round =>
            clear HE
            obtain ⟨i, s, rfl, HI, BG, HT, HW⟩ := hrel
            have hi := HI.out.1
            by_cases hlt : i < l.length
            · obtain ⟨ad, e, x0, x1, x2, x3, x4, x5⟩ := at_T25 (Kd.C_below HL0.out HRB.out.hb) ((i : Nat) : Int) (by omega) (by omega)
              cases e
              simp only [Int.toNat_natCast] at x0 x1 x2 x3 x4 x5
              have HX : Aside0 (∀ W, Below wz.heap.size wz W → W.cell? (ad.add (i * 6)) = some (.int .i64 (rd_T25 l (i : Int)).f0) ∧ W.cell? ⟨(ad.add (i * 6)).block, (ad.add (i * 6)).off + 1, none⟩ = some (.int .i64 (rd_T25 l (i : Int)).f1) ∧ W.cell? ⟨(ad.add (i * 6)).block, (ad.add (i * 6)).off + 2, none⟩ = some (.int .i64 (rd_T25 l (i : Int)).f2) ∧ W.cell? ⟨(ad.add (i * 6)).block, (ad.add (i * 6)).off + 3, none⟩ = some (.int .i64 (rd_T25 l (i : Int)).f3) ∧ W.cell? ⟨(ad.add (i * 6)).block, (ad.add (i * 6)).off + 4, none⟩ = some (.int .i64 (rd_T25 l (i : Int)).f4.f0) ∧ W.cell? ⟨(ad.add (i * 6)).block, (ad.add (i * 6)).off + 5, none⟩ = some (.int .i64 (rd_T25 l (i : Int)).f4.f1)) := ⟨fun W h => ⟨cell_on h x0, cell_on h x1, cell_on h x2, cell_on h x3, cell_on h x4, cell_on h x5⟩⟩
              clear x0 x1 x2 x3 x4 x5
              have HLT := Aside0.mk hlt
              have j2 : (i : Int) < (l.length : Int) := by omega
              have j3 : (0 : Int) ≤ (i : Int) := by omega
              have g1 : decide ((i : Int) < (l.length : Int)) = true := decide_eq_true j2
              have hw1 : IntKind.i64.wrap ((i : Int) + 1) = (i : Int) + 1 := Go.IntWalk.i64_in _ (by omega)
              have CB : Aside0 (∀ W, Kd.C k43 W A0 r.length r → Calls Tryd.prog 19 #[.agg #[.int .i64 (rd_T25 l (i : Int)).f0, .int .i64 (rd_T25 l (i : Int)).f1, .int .i64 (rd_T25 l (i : Int)).f2, .int .i64 (rd_T25 l (i : Int)).f3, .int .i64 (rd_T25 l (i : Int)).f4.f0, .int .i64 (rd_T25 l (i : Int)).f4.f1], .slice A0 r.length c0, .agg #[.int .i64 d.f0, .int .i64 d.f1], .int .i64 known] W fun e w' => e = .returned (.tuple #[.agg #[.int .i64 (boundsL (rd_T25 l (i : Int)) r d known).1.1, .int .i64 (boundsL (rd_T25 l (i : Int)) r d known).1.2], .int .i64 (boundsL (rd_T25 l (i : Int)) r d known).2]) ∧ Below W.heap.size W w') := ⟨fun W h => HBnd.out (rd_T25 l (i : Int)) W h⟩
              have HOk := Aside0.mk (fun h => sevF_ok (i := i) hlt HT.out h)
              have HBad := Aside0.mk (fun h => sevF_bad (i := i) hlt HT.out h)
              clear HT hlt
              generalize hbb : boundsL (rd_T25 l (i : Int)) r d known = bb at *
              generalize rd_T25 l (i : Int) = x at *
              clear hbb
              obtain ⟨⟨b1, b2⟩, er⟩ := bb
              obtain ⟨s1, s2⟩ := s
              dsimp only at BG HOk HBad CB
              go_upto_region 14 with (fail)
              clear g1
              go_cut [13, 14] (fun v13 v14 wd => ∃ g : Nat, v13 = .pointer (some ⟨g, 0, none⟩) ∧ v14 = .int .i64 er ∧ Aside0 (wd.heap[g]? = some (.cells #[.int .i64 b1, .int .i64 b2] 36 (0, 0))) ∧ Aside0 (wd.heap[wz.heap.size]? = some (.cells #[.int .i64 s1, .int .i64 s2] 36 (0, 0))) ∧ Aside0 (Below wz.heap.size wz wd))
              case first =>
                refine wp_region_any (by kernel_rfl) ?_
                refine wpAny_of_held (S := fun W => Below wz.heap.size wz W ∧ W.heap[wz.heap.size]? = some (.cells #[.int .i64 s1, .int .i64 s2] 36 (0, 0))) _ _ _ _ ?_
                show wpAnyH _ _ _ _ _ 14 (Array.replicate 14 false) _ wr.drew
                have HS : Below wz.heap.size wz wr.drew ∧ wr.drew.heap[wz.heap.size]? = some (.cells #[.int .i64 s1, .int .i64 s2] 36 (0, 0)) := ⟨below_drew1 HW.out, BG.out⟩
                clear HW BG
                generalize wr.drew = wq at *
                refine take_held (v := .slice (some ad) l.length cL) 0 rfl (by kernel_rfl) (by kernel_rfl) (by kernel_rfl) (fun _ _ _ h => h) (by rfl) HS (fun w9 h9 => ?hy) ?_
                case hy => (skip; go_simp)
                try simp only [Act.put, List.setIfInBounds_toArray, List.set_cons_zero, List.set_cons_succ]
                refine take_held (v := .int .i64 (i : Int)) 1 rfl (by kernel_rfl) (by kernel_rfl) (by kernel_rfl) (fun _ _ _ h => h) (by rfl) HS (fun w9 h9 => ?hy) ?_
                case hy => (skip; go_simp)
                try simp only [Act.put, List.setIfInBounds_toArray, List.set_cons_zero, List.set_cons_succ]
                refine take_held (v := .pointer (some (ad.add (i * 6)))) 2 rfl (by kernel_rfl) (by kernel_rfl) (by kernel_rfl) (fun _ _ _ h => h) (by rfl) HS (fun w9 h9 => ?hy) ?_
                case hy => (skip; go_simp)
                try simp only [Act.put, List.setIfInBounds_toArray, List.set_cons_zero, List.set_cons_succ]
                refine take_held (v := .agg #[.int .i64 x.f0, .int .i64 x.f1, .int .i64 x.f2, .int .i64 x.f3, .int .i64 x.f4.f0, .int .i64 x.f4.f1]) 3 rfl (by kernel_rfl) (by kernel_rfl) (by kernel_rfl) (fun _ _ _ h => h) (by rfl) HS (fun w9 h9 => ?hy) ?_
                case hy => (obtain ⟨y0, y1, y2, y3, y4, y5⟩ := HX.out _ h9.1; go_simp)
                try simp only [Act.put, List.setIfInBounds_toArray, List.set_cons_zero, List.set_cons_succ]
                refine take_held (v := .slice A0 r.length c0) 4 rfl (by kernel_rfl) (by kernel_rfl) (by kernel_rfl) (fun _ _ _ h => h) (by rfl) HS (fun w9 h9 => ?hy) ?_
                case hy => (skip; go_simp)
                try simp only [Act.put, List.setIfInBounds_toArray, List.set_cons_zero, List.set_cons_succ]
                refine take_held (v := .agg #[.int .i64 d.f0, .int .i64 d.f1]) 5 rfl (by kernel_rfl) (by kernel_rfl) (by kernel_rfl) (fun _ _ _ h => h) (by rfl) HS (fun w9 h9 => ?hy) ?_
                case hy => (have u0 : w9.cell? ⟨w.heap.size, 0, none⟩ = some (.int .i64 d.f0) := (blk_cell (HFz.out _ h9.1).bD 0).trans rfl; have u1 : w9.cell? ⟨w.heap.size, 1, none⟩ = some (.int .i64 d.f1) := (blk_cell (HFz.out _ h9.1).bD 1).trans rfl; go_simp)
                try simp only [Act.put, List.setIfInBounds_toArray, List.set_cons_zero, List.set_cons_succ]
                refine take_held (v := .int .i64 known) 6 rfl (by kernel_rfl) (by kernel_rfl) (by kernel_rfl) (fun _ _ _ h => h) (by rfl) HS (fun w9 h9 => ?hy) ?_
                case hy => (skip; go_simp)
                try simp only [Act.put, List.setIfInBounds_toArray, List.set_cons_zero, List.set_cons_succ]
                have hgl : wz.heap.size < wq.heap.size := blk_lt HS.2
                refine both_held 7 11 rfl rfl (by kernel_rfl) (fun K hK => ?oa) (fun K hK => ?ob)
                case oa =>
                  rw [if_pos (by rfl)]
                  go_simp
                  go_at_call 19
                  (with_reducible refine (CB.out _ (Kd.C_below HR0.out (HFz.out _ HS.1).hb)).mono ?_)
                  rintro e w3 ⟨rfl, hb⟩
                  replace HS := And.intro (below_then HS.1 HS.1.size hb) (blk_below HS.2 hb)
                  clear hb
                  refine hK.out _ _ HS ?_
                  try simp only [Act.put, List.setIfInBounds_toArray, List.set_cons_zero, List.set_cons_succ]
                  clear hK K
                  refine take_held (v := .tuple #[.agg #[.int .i64 b1, .int .i64 b2], .int .i64 er]) 8 rfl (by kernel_rfl) (by kernel_rfl) (by kernel_rfl) (fun _ _ _ h => h) (by rfl) HS (fun w9 h9 => ?hy) ?_
                  case hy => (skip; go_simp)
                  try simp only [Act.put, List.setIfInBounds_toArray, List.set_cons_zero, List.set_cons_succ]
                  refine take_held (v := .agg #[.int .i64 b1, .int .i64 b2]) 9 rfl (by kernel_rfl) (by kernel_rfl) (by kernel_rfl) (fun _ _ _ h => h) (by rfl) HS (fun w9 h9 => ?hy) ?_
                  case hy => (skip; go_simp)
                  try simp only [Act.put, List.setIfInBounds_toArray, List.set_cons_zero, List.set_cons_succ]
                  refine take_held (v := .int .i64 er) 10 rfl (by kernel_rfl) (by kernel_rfl) (by kernel_rfl) (fun _ _ _ h => h) (by rfl) HS (fun w9 h9 => ?hy) ?_
                  case hy => (skip; go_simp)
                  try simp only [Act.put, List.setIfInBounds_toArray, List.set_cons_zero, List.set_cons_succ]
                  have hg3 := blk_lt HS.2
                  have HSB := Aside0.mk HS
                  refine only_held 11 rfl (by kernel_rfl) (fun K hK => ?_)
                  rw [if_pos (by rfl)]
                  go_simp
                  replace HS := And.intro (below_alloc HS.1 (.cells #[.int .i64 0, .int .i64 0] 36)) (blk_alloc HS.2 (.cells #[.int .i64 0, .int .i64 0] 36))
                  refine hK.out _ _ HS ?_
                  try simp only [Act.put, List.setIfInBounds_toArray, List.set_cons_zero, List.set_cons_succ]
                  clear hK K
                  have BX := Aside0.mk (blk_new w3 (.cells #[.int .i64 0, .int .i64 0] 36))
                  have s0 := (blk_cell BX.out 0).trans rfl
                  have s1' := (blk_cell BX.out 1).trans rfl
                  have f0 := blk_frozen BX.out 0
                  have f1 := blk_frozen BX.out 1
                  have HSA := Aside0.mk HS
                  clear HS
                  refine only_held 12 rfl (by kernel_rfl) (fun K hK => ?_)
                  rw [if_pos (by rfl)]
                  go_simp
                  refine hK.out _ _ (by first | exact ⟨below_set (below_set HSA.out.1 (Nat.le_of_lt hg3)) (Nat.le_of_lt hg3), blk_far (blk_far HSA.out.2 (p := ⟨w3.heap.size, 0, none⟩) (Nat.ne_of_lt hg3) _) (p := ⟨w3.heap.size, 1, none⟩) (Nat.ne_of_lt hg3) _⟩ | exact ⟨below_alloc HSB.out.1 _, blk_alloc HSB.out.2 _⟩) ?_
                  try simp only [Act.put, List.setIfInBounds_toArray, List.set_cons_zero, List.set_cons_succ]
                  clear hK K
                  refine take_held (v := .int .i64 er) 13 rfl (by kernel_rfl) (by kernel_rfl) (by kernel_rfl) (fun _ _ _ h => h) (by rfl) (by first | exact ⟨below_set (below_set HSA.out.1 (Nat.le_of_lt hg3)) (Nat.le_of_lt hg3), blk_far (blk_far HSA.out.2 (p := ⟨w3.heap.size, 0, none⟩) (Nat.ne_of_lt hg3) _) (p := ⟨w3.heap.size, 1, none⟩) (Nat.ne_of_lt hg3) _⟩ | exact ⟨below_alloc HSB.out.1 _, blk_alloc HSB.out.2 _⟩) (fun w9 h9 => ?hy) ?_
                  case hy => (skip; go_simp)
                  try simp only [Act.put, List.setIfInBounds_toArray, List.set_cons_zero, List.set_cons_succ]
                  refine done_held (by kernel_rfl) ?_
                  clear s0 s1' f0 f1
                  go_wp2
                  go_meet
                  case rel => exact ⟨_, rfl, rfl, ⟨by first | exact blk_put (blk_put BX.out 0 _ rfl) 1 _ rfl | exact blk_new _ _⟩, ⟨by first | exact blk_far (blk_far HSA.out.2 (p := ⟨w3.heap.size, 0, none⟩) (Nat.ne_of_lt hg3) _) (p := ⟨w3.heap.size, 1, none⟩) (Nat.ne_of_lt hg3) _ | exact blk_alloc HSB.out.2 _⟩, ⟨by first | exact below_set (below_set HSA.out.1 (Nat.le_of_lt hg3)) (Nat.le_of_lt hg3) | exact below_alloc HSB.out.1 _⟩⟩
                case ob =>
                  rw [if_pos (by rfl)]
                  go_simp
                  replace HS := And.intro (below_alloc HS.1 (.cells #[.int .i64 0, .int .i64 0] 36)) (blk_alloc HS.2 (.cells #[.int .i64 0, .int .i64 0] 36))
                  refine hK.out _ _ HS ?_
                  try simp only [Act.put, List.setIfInBounds_toArray, List.set_cons_zero, List.set_cons_succ]
                  clear hK K
                  have HSB := Aside0.mk HS
                  have BA := blk_new wq (.cells #[.int .i64 0, .int .i64 0] 36)
                  refine only_held 7 rfl (by kernel_rfl) (fun K hK => ?_)
                  rw [if_pos (by rfl)]
                  go_simp
                  go_at_call 19
                  (with_reducible refine (CB.out _ (Kd.C_below HR0.out (HFz.out _ HS.1).hb)).mono ?_)
                  rintro e w3 ⟨rfl, hb⟩
                  have BB := blk_below BA hb
                  replace HS := And.intro (below_then HS.1 HS.1.size hb) (blk_below HS.2 hb)
                  clear hb
                  refine hK.out _ _ HS ?_
                  try simp only [Act.put, List.setIfInBounds_toArray, List.set_cons_zero, List.set_cons_succ]
                  clear hK K
                  refine take_held (v := .tuple #[.agg #[.int .i64 b1, .int .i64 b2], .int .i64 er]) 8 rfl (by kernel_rfl) (by kernel_rfl) (by kernel_rfl) (fun _ _ _ h => h) (by rfl) HS (fun w9 h9 => ?hy) ?_
                  case hy => (skip; go_simp)
                  try simp only [Act.put, List.setIfInBounds_toArray, List.set_cons_zero, List.set_cons_succ]
                  refine take_held (v := .agg #[.int .i64 b1, .int .i64 b2]) 9 rfl (by kernel_rfl) (by kernel_rfl) (by kernel_rfl) (fun _ _ _ h => h) (by rfl) HS (fun w9 h9 => ?hy) ?_
                  case hy => (skip; go_simp)
                  try simp only [Act.put, List.setIfInBounds_toArray, List.set_cons_zero, List.set_cons_succ]
                  refine take_held (v := .int .i64 er) 10 rfl (by kernel_rfl) (by kernel_rfl) (by kernel_rfl) (fun _ _ _ h => h) (by rfl) HS (fun w9 h9 => ?hy) ?_
                  case hy => (skip; go_simp)
                  try simp only [Act.put, List.setIfInBounds_toArray, List.set_cons_zero, List.set_cons_succ]
                  have BX := Aside0.mk (BB)
                  have s0 := (blk_cell BX.out 0).trans rfl
                  have s1' := (blk_cell BX.out 1).trans rfl
                  have f0 := blk_frozen BX.out 0
                  have f1 := blk_frozen BX.out 1
                  have HSA := Aside0.mk HS
                  clear HS
                  refine only_held 12 rfl (by kernel_rfl) (fun K hK => ?_)
                  rw [if_pos (by rfl)]
                  go_simp
                  refine hK.out _ _ (by first | exact ⟨below_set (below_set HSA.out.1 (Nat.le_of_lt hgl)) (Nat.le_of_lt hgl), blk_far (blk_far HSA.out.2 (p := ⟨wq.heap.size, 0, none⟩) (Nat.ne_of_lt hgl) _) (p := ⟨wq.heap.size, 1, none⟩) (Nat.ne_of_lt hgl) _⟩ | exact ⟨below_alloc HSB.out.1 _, blk_alloc HSB.out.2 _⟩) ?_
                  try simp only [Act.put, List.setIfInBounds_toArray, List.set_cons_zero, List.set_cons_succ]
                  clear hK K
                  refine take_held (v := .int .i64 er) 13 rfl (by kernel_rfl) (by kernel_rfl) (by kernel_rfl) (fun _ _ _ h => h) (by rfl) (by first | exact ⟨below_set (below_set HSA.out.1 (Nat.le_of_lt hgl)) (Nat.le_of_lt hgl), blk_far (blk_far HSA.out.2 (p := ⟨wq.heap.size, 0, none⟩) (Nat.ne_of_lt hgl) _) (p := ⟨wq.heap.size, 1, none⟩) (Nat.ne_of_lt hgl) _⟩ | exact ⟨below_alloc HSB.out.1 _, blk_alloc HSB.out.2 _⟩) (fun w9 h9 => ?hy) ?_
                  case hy => (skip; go_simp)
                  try simp only [Act.put, List.setIfInBounds_toArray, List.set_cons_zero, List.set_cons_succ]
                  refine done_held (by kernel_rfl) ?_
                  clear s0 s1' f0 f1
                  go_wp2
                  go_meet
                  case rel => exact ⟨_, rfl, rfl, ⟨by first | exact blk_put (blk_put BX.out 0 _ rfl) 1 _ rfl | exact blk_new _ _⟩, ⟨by first | exact blk_far (blk_far HSA.out.2 (p := ⟨wq.heap.size, 0, none⟩) (Nat.ne_of_lt hgl) _) (p := ⟨wq.heap.size, 1, none⟩) (Nat.ne_of_lt hgl) _ | exact blk_alloc HSB.out.2 _⟩, ⟨by first | exact below_set (below_set HSA.out.1 (Nat.le_of_lt hgl)) (Nat.le_of_lt hgl) | exact below_alloc HSB.out.1 _⟩⟩
              case rest =>
                obtain ⟨g, rfl, rfl, BX, BG1, HW1⟩ := hcut
                clear CB HX BG HW
                by_cases her : er = 0
                · have HT2 := Aside0.mk (HOk.out her)
                  subst her
                  clear HOk HBad
                  have s0 := (blk_cell BG1.out 0).trans rfl
                  have s1' := (blk_cell BG1.out 1).trans rfl
                  have b0 := (blk_cell BX.out 0).trans rfl
                  have b1' := (blk_cell BX.out 1).trans rfl
                  go_wp2_with (go_at_call 40; (with_reducible refine (plus_wrap _ _ _ _ _).mono ?_); rintro e w5 ⟨rfl, hb⟩; have BG5 := Aside0.mk (blk_below BG1.out hb); have HW5 := Aside0.mk (below_then HW1.out HW1.out.size hb); have t0 := (blk_cell BG5.out 0).trans rfl; have t1 := (blk_cell BG5.out 1).trans rfl; have f0 := blk_frozen BG5.out 0; have f1 := blk_frozen BG5.out 1; clear hb)
                  have BG6 := Aside0.mk (blk_put (blk_put BG5.out 0 (.int .i64 (wrap64 (s1 + b1))) rfl) 1 (.int .i64 (wrap64 (s2 + b2))) rfl)
                  have HW6 := Aside0.mk (below_set (below_set HW5.out (Nat.le_refl _) (j := 0) (v := .int .i64 (wrap64 (s1 + b1)))) (Nat.le_refl _) (j := 1) (v := .int .i64 (wrap64 (s2 + b2))))
                  go_roundg (l.length - (i + 1))
                  case measure => have := HI.out; have := HLT.out; omega
                  case rel => exact ⟨i + 1, (wrap64 (s1 + b1), wrap64 (s2 + b2)), by go_num, ⟨by have := HLT.out; omega, rfl⟩, BG6, HT2, HW6⟩
                · have HE := Aside0.mk (HBad.out her)
                  have e1 : (er != 0) = true := bne_iff_ne.2 her
                  have e2 : (er == 0) = false := beq_eq_false_iff_ne.2 her
                  clear HOk HBad her
                  have HRBc := Aside0.mk (HFz.out _ HW1.out)
                  have r0 : wc.cell? ⟨w.heap.size + 1, 0, none⟩ = some (.int .i64 0) := (blk_cell (HRBc.out).bR 0).trans rfl; have r1 : wc.cell? ⟨w.heap.size + 1, 1, none⟩ = some (.int .i64 0) := (blk_cell (HRBc.out).bR 1).trans rfl; have rf0 := blk_frozen (HRBc.out).bR 0; have rf1 := blk_frozen (HRBc.out).bR 1
                  go_wp2
                  rw [HE.out]
                  have BRf := blk_put (blk_put HRBc.out.bR 0 (.int .i64 0) rfl) 1 (.int .i64 0) rfl
                  have q0 := (blk_cell BRf 0).trans rfl
                  have q1 := (blk_cell BRf 1).trans rfl
                  refine bodyPost_ret (v := .tuple #[.agg #[.int .i64 0, .int .i64 0], .int .i64 er]) ?_ rfl ⟨rfl, below_set (below_set HRBc.out.hb (by omega)) (by omega)⟩
                  simp [results, Tryd.f21, go_sem, q0, q1]
            · have hie : i = l.length := by omega
              have HE := Aside0.mk (sevF_end hie HT.out)
              have g1 : decide ((i : Int) < (l.length : Int)) = false := decide_eq_false (by omega)
              have j1 : ¬ ((i : Int) < (l.length : Int)) := by omega
              clear HT hie hlt HI hi
              have HRBc := Aside0.mk (HFz.out _ HW.out)
              have r0 : wr.cell? ⟨w.heap.size + 1, 0, none⟩ = some (.int .i64 0) := (blk_cell (HRBc.out).bR 0).trans rfl; have r1 : wr.cell? ⟨w.heap.size + 1, 1, none⟩ = some (.int .i64 0) := (blk_cell (HRBc.out).bR 1).trans rfl; have rf0 := blk_frozen (HRBc.out).bR 0; have rf1 := blk_frozen (HRBc.out).bR 1
              have s0 := (blk_cell BG.out 0).trans rfl
              have s1 := (blk_cell BG.out 1).trans rfl
              go_wp2
              rw [HE.out]
              have BRf := blk_put (blk_put HRBc.out.bR 0 (.int .i64 s.1) rfl) 1 (.int .i64 s.2) rfl
              have q0 := (blk_cell BRf 0).trans rfl
              have q1 := (blk_cell BRf 1).trans rfl
              refine bodyPost_ret (v := .tuple #[.agg #[.int .i64 s.1, .int .i64 s.2], .int .i64 0]) ?_ rfl ⟨rfl, below_set (below_set HRBc.out.hb (by omega)) (by omega)⟩
              simp [results, Tryd.f21, go_sem, q0, q1]
        · have HE := Aside0.mk (several_arg (l := l) hall)
          cases h1 : stretchB d.f0 d.f1 with
          | false =>
            have CSt := Aside0.mk (HCst.out false h1)
            clear hall h1 HCst HCrd HCdy HGap HV
            go_wp2_with (first 
          | (go_at_call 23; (with_reducible refine (CSt.out _).mono ?_); rintro e w2 ⟨rfl, hb⟩; replace HRB := Aside0.mk (HRB.out.below hb); have u0 : w2.cell? ⟨w.heap.size, 0, none⟩ = some (.int .i64 d.f0) := (blk_cell (HRB.out).bD 0).trans rfl; have u1 : w2.cell? ⟨w.heap.size, 1, none⟩ = some (.int .i64 d.f1) := (blk_cell (HRB.out).bD 1).trans rfl; have r0 : w2.cell? ⟨w.heap.size + 1, 0, none⟩ = some (.int .i64 0) := (blk_cell (HRB.out).bR 0).trans rfl; have r1 : w2.cell? ⟨w.heap.size + 1, 1, none⟩ = some (.int .i64 0) := (blk_cell (HRB.out).bR 1).trans rfl; have rf0 := blk_frozen (HRB.out).bR 0; have rf1 := blk_frozen (HRB.out).bR 1; clear hb))
            rw [HE.out]
            have BRf := blk_put (blk_put HRB.out.bR 0 (.int .i64 0) rfl) 1 (.int .i64 0) rfl
            have q0 := (blk_cell BRf 0).trans rfl
            have q1 := (blk_cell BRf 1).trans rfl
            refine bodyPost_ret (v := .tuple #[.agg #[.int .i64 0, .int .i64 0], .int .i64 1]) ?_ rfl ⟨rfl, below_set (below_set HRB.out.hb (by omega)) (by omega)⟩
            simp [results, Tryd.f21, go_sem, q0, q1]
          | true =>
            have CSt := Aside0.mk (HCst.out true h1)
            cases h2 : readingsL r with
            | false =>
              have CRd := Aside0.mk (HCrd.out false h2)
              clear hall h1 h2 HCst HCrd HCdy HGap HV
              go_wp2_with (first 
          | (go_at_call 23; (with_reducible refine (CSt.out _).mono ?_); rintro e w2 ⟨rfl, hb⟩; replace HRB := Aside0.mk (HRB.out.below hb); have u0 : w2.cell? ⟨w.heap.size, 0, none⟩ = some (.int .i64 d.f0) := (blk_cell (HRB.out).bD 0).trans rfl; have u1 : w2.cell? ⟨w.heap.size, 1, none⟩ = some (.int .i64 d.f1) := (blk_cell (HRB.out).bD 1).trans rfl; have r0 : w2.cell? ⟨w.heap.size + 1, 0, none⟩ = some (.int .i64 0) := (blk_cell (HRB.out).bR 0).trans rfl; have r1 : w2.cell? ⟨w.heap.size + 1, 1, none⟩ = some (.int .i64 0) := (blk_cell (HRB.out).bR 1).trans rfl; have rf0 := blk_frozen (HRB.out).bR 0; have rf1 := blk_frozen (HRB.out).bR 1; clear hb) 
          | (go_at_call 25; (with_reducible refine (CRd.out _ (Kd.C_below HR0.out HRB.out.hb)).mono ?_); rintro e w3 ⟨rfl, hb⟩; replace HRB := Aside0.mk (HRB.out.below hb); have u0 : w3.cell? ⟨w.heap.size, 0, none⟩ = some (.int .i64 d.f0) := (blk_cell (HRB.out).bD 0).trans rfl; have u1 : w3.cell? ⟨w.heap.size, 1, none⟩ = some (.int .i64 d.f1) := (blk_cell (HRB.out).bD 1).trans rfl; have r0 : w3.cell? ⟨w.heap.size + 1, 0, none⟩ = some (.int .i64 0) := (blk_cell (HRB.out).bR 0).trans rfl; have r1 : w3.cell? ⟨w.heap.size + 1, 1, none⟩ = some (.int .i64 0) := (blk_cell (HRB.out).bR 1).trans rfl; have rf0 := blk_frozen (HRB.out).bR 0; have rf1 := blk_frozen (HRB.out).bR 1; clear hb))
              rw [HE.out]
              have BRf := blk_put (blk_put HRB.out.bR 0 (.int .i64 0) rfl) 1 (.int .i64 0) rfl
              have q0 := (blk_cell BRf 0).trans rfl
              have q1 := (blk_cell BRf 1).trans rfl
              refine bodyPost_ret (v := .tuple #[.agg #[.int .i64 0, .int .i64 0], .int .i64 1]) ?_ rfl ⟨rfl, below_set (below_set HRB.out.hb (by omega)) (by omega)⟩
              simp [results, Tryd.f21, go_sem, q0, q1]
            | true =>
              have CRd := Aside0.mk (HCrd.out true h2)
              have h3 : inB known 0 36524 = false := by rw [h1, h2] at hall; simpa using hall
              have CDy := Aside0.mk (HCdy.out false h3)
              clear hall h1 h2 h3 HCst HCrd HCdy HGap HV
              go_wp2_with (first 
          | (go_at_call 23; (with_reducible refine (CSt.out _).mono ?_); rintro e w2 ⟨rfl, hb⟩; replace HRB := Aside0.mk (HRB.out.below hb); have u0 : w2.cell? ⟨w.heap.size, 0, none⟩ = some (.int .i64 d.f0) := (blk_cell (HRB.out).bD 0).trans rfl; have u1 : w2.cell? ⟨w.heap.size, 1, none⟩ = some (.int .i64 d.f1) := (blk_cell (HRB.out).bD 1).trans rfl; have r0 : w2.cell? ⟨w.heap.size + 1, 0, none⟩ = some (.int .i64 0) := (blk_cell (HRB.out).bR 0).trans rfl; have r1 : w2.cell? ⟨w.heap.size + 1, 1, none⟩ = some (.int .i64 0) := (blk_cell (HRB.out).bR 1).trans rfl; have rf0 := blk_frozen (HRB.out).bR 0; have rf1 := blk_frozen (HRB.out).bR 1; clear hb) 
          | (go_at_call 25; (with_reducible refine (CRd.out _ (Kd.C_below HR0.out HRB.out.hb)).mono ?_); rintro e w3 ⟨rfl, hb⟩; replace HRB := Aside0.mk (HRB.out.below hb); have u0 : w3.cell? ⟨w.heap.size, 0, none⟩ = some (.int .i64 d.f0) := (blk_cell (HRB.out).bD 0).trans rfl; have u1 : w3.cell? ⟨w.heap.size, 1, none⟩ = some (.int .i64 d.f1) := (blk_cell (HRB.out).bD 1).trans rfl; have r0 : w3.cell? ⟨w.heap.size + 1, 0, none⟩ = some (.int .i64 0) := (blk_cell (HRB.out).bR 0).trans rfl; have r1 : w3.cell? ⟨w.heap.size + 1, 1, none⟩ = some (.int .i64 0) := (blk_cell (HRB.out).bR 1).trans rfl; have rf0 := blk_frozen (HRB.out).bR 0; have rf1 := blk_frozen (HRB.out).bR 1; clear hb) 
          | (go_at_call 32; (with_reducible refine (CDy.out _).mono ?_); rintro e w4 ⟨rfl, hb⟩; replace HRB := Aside0.mk (HRB.out.below hb); have u0 : w4.cell? ⟨w.heap.size, 0, none⟩ = some (.int .i64 d.f0) := (blk_cell (HRB.out).bD 0).trans rfl; have u1 : w4.cell? ⟨w.heap.size, 1, none⟩ = some (.int .i64 d.f1) := (blk_cell (HRB.out).bD 1).trans rfl; have r0 : w4.cell? ⟨w.heap.size + 1, 0, none⟩ = some (.int .i64 0) := (blk_cell (HRB.out).bR 0).trans rfl; have r1 : w4.cell? ⟨w.heap.size + 1, 1, none⟩ = some (.int .i64 0) := (blk_cell (HRB.out).bR 1).trans rfl; have rf0 := blk_frozen (HRB.out).bR 0; have rf1 := blk_frozen (HRB.out).bR 1; clear hb))
              rw [HE.out]
              have BRf := blk_put (blk_put HRB.out.bR 0 (.int .i64 0) rfl) 1 (.int .i64 0) rfl
              have q0 := (blk_cell BRf 0).trans rfl
              have q1 := (blk_cell BRf 1).trans rfl
              refine bodyPost_ret (v := .tuple #[.agg #[.int .i64 0, .int .i64 0], .int .i64 1]) ?_ rfl ⟨rfl, below_set (below_set HRB.out.hb (by omega)) (by omega)⟩
              simp [results, Tryd.f21, go_sem, q0, q1]
end Go.Proofs.YtknfkibnocfjiaaDoor.P
