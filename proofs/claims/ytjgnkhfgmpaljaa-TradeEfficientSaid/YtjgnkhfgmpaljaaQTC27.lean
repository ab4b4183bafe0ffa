/- Lemmas, readings of functions as plain Lean functions and contracts of functions of the program, for the claimed theorem; each one's conditions stand in its statement. -/
import Derived.Test.YtjgnkhfgmpaljaaQTC26
import Derived.Test.YtjgnkhfgmpaljaaQTC24
import Derived.Test.YtjgnkhfgmpaljaaQTC14
import Derived.IntWalk
namespace Go.Proofs.Ytjgnkhfgmpaljaa.P
set_option linter.unusedSimpArgs false
open Go.RowKit
theorem wfI_okI {x : Int} (h : wfI x) : okI x := by
  unfold wfI at h; unfold okI
  have h1 : IntKind.i64.min = -9223372036854775808 := by decide
  have h2 : IntKind.i64.max = 9223372036854775807 := by decide
  simp [Lit.wf] at h
  omega
theorem opens_T49 : Go.Proofs.Ytjgnkhfgmpaljaa.M.Opens Try.prog 49 (Go.Proofs.YtjgnkhfgmpaljaaW.PrintWords.Kd.slice 5 (Go.Proofs.YtjgnkhfgmpaljaaW.PrintWords.Kd.int .u8)) (fun l => l.length ≤ maxLen ∧ ∀ x ∈ l, (Lit.int .u8 x).wf = true) := Go.Proofs.Ytjgnkhfgmpaljaa.M.opens_slice Try.underlying49 (Go.Proofs.Ytjgnkhfgmpaljaa.M.opens_int Try.underlying5) (by kernel_rfl)
end Go.Proofs.Ytjgnkhfgmpaljaa.P
namespace Go.Proofs.Ytjgnkhfgmpaljaa.P
open Go.RowKit Go.Proofs.YtjgnkhfgmpaljaaW.PrintWords Go.Proofs.YtjgnkhfgmpaljaaW.PrintLast Go.Proofs.YtjgnkhfgmpaljaaW.PrintMore Go.Proofs.Ytjgnkhfgmpaljaa.M
set_option linter.unusedVariables false
set_option linter.unusedSimpArgs false
theorem zeroM (W : World) : (zeroValue 39).run Try.prog W = .ok (.agg #[.int .i64 0, .int .i64 0, .int .i64 0]) W := by kernel_rfl
def encM (x : S39) : Value := .agg #[.int .i64 x.f0, .int .i64 x.f1, .int .i64 x.f2]
set_option maxHeartbeats 8000000 in
set_option maxRecDepth 100000 in
theorem cohousinglaw24_TradeRings.calls (A0 : Option Addr) (c0 : Nat) (F : List S53) (A1 : Option Addr) (c1 : Nat) (P : List S41) (A2 : Option Addr) (c2 : Nat) (ord : List Int) (w : World)
    (hr0 : Kd.C k53 w A0 F.length F) (hc0 : F.length ≤ c0) (hr1 : Kd.C k41 w A1 P.length P) (hc1 : P.length ≤ c1) (hr2 : Kd.C (Kd.int .i64) w A2 ord.length ord) (hc2 : ord.length ≤ c2)
    (wm : wf25 ⟨F, P⟩) (wo : wfL ord)  :
    Calls Try.prog 5 #[.agg #[.slice A0 F.length c0, .slice A1 P.length c1], .slice A2 ord.length c2] w fun e w' => e = .returned (.bool true) ∧ Below w.heap.size w w' := by
  have hF : ∀ x ∈ F, okI x.f0 ∧ okI x.f1 := fun x hx => ⟨wfI_okI (wm.1.2 x hx).1, wfI_okI (wm.1.2 x hx).2⟩
  have hP : ∀ p ∈ P, okI p.f1 ∧ ∀ f ∈ p.f2, okI f := fun p hp => ⟨wfI_okI (wm.2.2 p hp).2.1, fun f hf => wfI_okI ((wm.2.2 p hp).2.2.2 f hf)⟩
  have hmP : P.length ≤ 9223372036854775807 := by have := wm.2.1; simp only [maxLen] at this; exact this
  obtain ⟨ku, hu⟩ := (usable_ev F P ord).rounds
  have HU := Aside0.mk hu
  have HH : Aside0 (cohousinglaw24_head.f = some true) := ⟨rfl⟩
  have hu25 := Try.underlying25
  have hu41 := Try.underlying41
  have HR0 := Aside0.mk hr0
  have HR1 := Aside0.mk hr1
  have HR2 := Aside0.mk hr2
  have HC0 := Aside0.mk hc0
  have HC1 := Aside0.mk hc1
  have HC2 := Aside0.mk hc2
  have HB := Aside0.mk (Below.refl w.heap.size w)
  clear hr0 hr1 hr2 hc0 hc1 hc2 wm wo hu
  cases hu : useR F P ord with
  | false =>
    rw [hu] at HU
    clear hu hF hP
    go_enter Try.func5, Try.ntmps5
    go_wp2_with (first
      | ((with_reducible refine gate_dst (N := 2) rfl ?_); refine box_event ?hg (N := 2) ?hd (cs := #[.slice A0 F.length c0, .slice A1 P.length c1]) (t := 25) ?hr ?_; (case hd => rfl); (case hg => rfl); (case hr => first | (go_simp; done) | (go_simp; rfl)); intro g2 hg w1 hbox hb; have Gg2 := Aside0.mk hg; clear hg; replace HB := Aside0.mk (below_step HB.out hb); replace HR0 := Aside0.mk (Kd.C_below HR0.out hb); replace HR1 := Aside0.mk (Kd.C_below HR1.out hb); replace HR2 := Aside0.mk (Kd.C_below HR2.out hb); have K2 := Aside0.mk hbox; clear hbox hb; have zK2_0 : w1.cell? ⟨g2, 0, none⟩ = some (.slice A0 F.length c0) := (blk_cell K2.out 0).trans rfl; have zK2_1 : w1.cell? ⟨g2, 1, none⟩ = some (.slice A1 P.length c1) := (blk_cell K2.out 1).trans rfl)
      | (go_at_call 16; (with_reducible refine (cohousinglaw24_head.calls true _ HH.out).mono ?_); rintro e w2 ⟨rfl, hb⟩; replace HB := Aside0.mk (below_step HB.out hb); replace HR0 := Aside0.mk (Kd.C_below HR0.out hb); replace HR1 := Aside0.mk (Kd.C_below HR1.out hb); replace HR2 := Aside0.mk (Kd.C_below HR2.out hb); replace K2 := Aside0.mk (blk_below K2.out hb); clear zK2_0 zK2_1; have zK2_0 : w2.cell? ⟨g2, 0, none⟩ = some (.slice A0 F.length c0) := (blk_cell K2.out 0).trans rfl; have zK2_1 : w2.cell? ⟨g2, 1, none⟩ = some (.slice A1 P.length c1) := (blk_cell K2.out 1).trans rfl; clear hb)
      | (go_at_call 22; (with_reducible refine (cohousinglaw24_usable.calls ku A0 c0 F A1 c1 P A2 c2 ord false _ HR0.out HC0.out HR1.out HC1.out HR2.out HC2.out HU.out).mono ?_); rintro e w3 ⟨rfl, hb⟩; replace HB := Aside0.mk (below_step HB.out hb); replace HR0 := Aside0.mk (Kd.C_below HR0.out hb); replace HR1 := Aside0.mk (Kd.C_below HR1.out hb); replace HR2 := Aside0.mk (Kd.C_below HR2.out hb); replace K2 := Aside0.mk (blk_below K2.out hb); clear zK2_0 zK2_1; have zK2_0 : w3.cell? ⟨g2, 0, none⟩ = some (.slice A0 F.length c0) := (blk_cell K2.out 0).trans rfl; have zK2_1 : w3.cell? ⟨g2, 1, none⟩ = some (.slice A1 P.length c1) := (blk_cell K2.out 1).trans rfl; clear hb))
    go_ret
    exact ⟨rfl, HB.out⟩
  | true =>
    rw [hu] at HU
    obtain ⟨hb, hi, hfine⟩ := use_fine hu hF hP
    have hP20 : P.length ≤ 1000 := by have := hfine.n; omega
    have hF20 : F.length ≤ 20 := by unfold useR at hu; rw [Bool.and_eq_true] at hu; exact (fewR_iff.1 hu.1).1
    clear hu
    obtain ⟨htl, hg⟩ := gets hfine
    obtain ⟨Mv, hMv⟩ : ∃ Mv, Mv = outM P (finalG P ord).tos P.length := ⟨_, rfl⟩
    obtain ⟨Rg, hRg⟩ : ∃ Rg, Rg = (finalG P ord).rg := ⟨_, rfl⟩
    have HS : Aside0 (trade_Solve.f F P ord = some (Mv, Rg, 0)) := ⟨by unfold trade_Solve.f solveG; rw [if_pos hi, if_pos hb, hMv, hRg]⟩
    have hMl : Mv.length = P.length := by rw [hMv]; exact outM_len _ _ _
    have HMv : Aside0 (∀ i : Nat, i < P.length → rd_T39 Mv (i : Int) = outAt P (finalG P ord).tos i) := ⟨fun i hi => by rw [hMv, outM_get P _ _ (Nat.le_refl _) i hi, if_pos hi]⟩
    have HMl := Aside0.mk hMl
    have HT := Aside0.mk (And.intro hfine hb)
    have HRg := Aside0.mk hRg
    have n0 : ((Mv.length : Int) != (P.length : Int)) = false := by rw [hMl]; simp
    have n1 : (Mv.length != P.length) = false := by rw [hMl]; simp
    have n2 : decide (Mv.length = P.length) = true := decide_eq_true hMl
    have hmm := @run_makeMap Try.prog
    have HRl : Aside0 (Rg.length = (ringsL P ord).length ∧ ∀ k : Nat, k < (ringsL P ord).length → RingOk P (finalG P ord).tos (rd_T47 Rg (k : Int)) ((ringsL P ord).getD k [])) := ⟨by rw [hRg]; exact rings_ok2 hfine⟩
    have HId : Aside0 (∀ i : Nat, i < P.length → okI (idP P i)) := ⟨fun i hi => by
      have h := hb
      unfold okB validG at h
      rw [Bool.and_eq_true, Bool.and_eq_true] at h
      have h2 := (parties_ok h.1.2).1 _ (rd41_mem hi)
      unfold okI idP; omega⟩
    have HSm : Aside0 (∀ k, k < (ringsL P ord).length → ((ringsL P ord).getD k []).length ≤ 1000) := ⟨fun k hk => by
      have h1 := nd_rings hfine
      have h2 : ((ringsL P ord).getD k []).Nodup := by
        rw [List.getD_eq_getElem?_getD, List.getElem?_eq_getElem hk]
        exact (List.pairwise_flatten.1 h1).1 _ (List.getElem_mem hk)
      have h3 := T.nodup_bd P.length _ h2 (fun x hx => lt_rings hfine (List.mem_flatten.2 ⟨_, by rw [List.getD_eq_getElem?_getD, List.getElem?_eq_getElem hk] at hx ⊢; exact List.getElem_mem hk, hx⟩))
      omega⟩
    clear hMv hRg hMl hi hb hF hP htl hg hfine
    go_enter Try.func5, Try.ntmps5
    go_wp2_with (first
      | ((with_reducible refine gate_dst (N := 2) rfl ?_); refine box_event ?hg (N := 2) ?hd (cs := #[.slice A0 F.length c0, .slice A1 P.length c1]) (t := 25) ?hr ?_; (case hd => rfl); (case hg => rfl); (case hr => first | (go_simp; done) | (go_simp; rfl)); intro g2 hg w1 hbox hb; have Gg2 := Aside0.mk hg; clear hg; replace HB := Aside0.mk (below_step HB.out hb); replace HR0 := Aside0.mk (Kd.C_below HR0.out hb); replace HR1 := Aside0.mk (Kd.C_below HR1.out hb); replace HR2 := Aside0.mk (Kd.C_below HR2.out hb); have K2 := Aside0.mk hbox; clear hbox hb; have zK2_0 : w1.cell? ⟨g2, 0, none⟩ = some (.slice A0 F.length c0) := (blk_cell K2.out 0).trans rfl; have zK2_1 : w1.cell? ⟨g2, 1, none⟩ = some (.slice A1 P.length c1) := (blk_cell K2.out 1).trans rfl)
      | (go_at_call 16; (with_reducible refine (cohousinglaw24_head.calls true _ HH.out).mono ?_); rintro e w2 ⟨rfl, hb⟩; replace HB := Aside0.mk (below_step HB.out hb); replace HR0 := Aside0.mk (Kd.C_below HR0.out hb); replace HR1 := Aside0.mk (Kd.C_below HR1.out hb); replace HR2 := Aside0.mk (Kd.C_below HR2.out hb); replace K2 := Aside0.mk (blk_below K2.out hb); clear zK2_0 zK2_1; have zK2_0 : w2.cell? ⟨g2, 0, none⟩ = some (.slice A0 F.length c0) := (blk_cell K2.out 0).trans rfl; have zK2_1 : w2.cell? ⟨g2, 1, none⟩ = some (.slice A1 P.length c1) := (blk_cell K2.out 1).trans rfl; clear hb)
      | (go_at_call 22; (with_reducible refine (cohousinglaw24_usable.calls ku A0 c0 F A1 c1 P A2 c2 ord true _ HR0.out HC0.out HR1.out HC1.out HR2.out HC2.out HU.out).mono ?_); rintro e w3 ⟨rfl, hb⟩; replace HB := Aside0.mk (below_step HB.out hb); replace HR0 := Aside0.mk (Kd.C_below HR0.out hb); replace HR1 := Aside0.mk (Kd.C_below HR1.out hb); replace HR2 := Aside0.mk (Kd.C_below HR2.out hb); replace K2 := Aside0.mk (blk_below K2.out hb); clear zK2_0 zK2_1; have zK2_0 : w3.cell? ⟨g2, 0, none⟩ = some (.slice A0 F.length c0) := (blk_cell K2.out 0).trans rfl; have zK2_1 : w3.cell? ⟨g2, 1, none⟩ = some (.slice A1 P.length c1) := (blk_cell K2.out 1).trans rfl; clear hb)
      | (go_at_call 18; (with_reducible refine (trade_Solve.calls A0 c0 F A1 c1 P A2 c2 ord Mv Rg 0 _ HR0.out HC0.out HR1.out HC1.out HR2.out HC2.out HS.out).mono ?_); rintro e w4 ⟨v6, v7, rfl, hR, hS, hb⟩; replace HB := Aside0.mk (below_step HB.out hb); replace HR0 := Aside0.mk (Kd.C_below HR0.out hb); replace HR1 := Aside0.mk (Kd.C_below HR1.out hb); replace HR2 := Aside0.mk (Kd.C_below HR2.out hb); replace K2 := Aside0.mk (blk_below K2.out hb); clear zK2_0 zK2_1; have zK2_0 : w4.cell? ⟨g2, 0, none⟩ = some (.slice A0 F.length c0) := (blk_cell K2.out 0).trans rfl; have zK2_1 : w4.cell? ⟨g2, 1, none⟩ = some (.slice A1 P.length c1) := (blk_cell K2.out 1).trans rfl; clear hb; (obtain ⟨A6, c6, rfl, hc6, hC6⟩ := Kd.R_reads hR); have HR6 := Aside0.mk hC6; have HC6 := Aside0.mk hc6; clear hR hC6 hc6; (obtain ⟨A7, c7, rfl, hc7, hC7⟩ := Kd.R_reads (Kd.S_R hS)); have HR7 := Aside0.mk hC7; have HC7 := Aside0.mk hc7; clear hS hC7 hc7; have zA : (w4.alloc (.map #[] 0)).cell? ⟨g2, 1, none⟩ = some (.slice A1 P.length c1) := (blk_cell (blk_alloc K2.out _) 1).trans rfl))
    have hRm : Rg.length ≤ 9223372036854775807 := HR7.out.2.1
    have HM0 := Aside0.mk (MapAt.made w4 Try.prog 3)
    have HK0 := Aside0.mk (below_alloc (Below.refl w4.heap.size w4) (.map #[] 0))
    clear HU HH HS zK2_0 zK2_1 HR2 HC2 zA n0 n1 n2
    go_loopg [38] Mv.length (fun gk v38 w' => ∃ i : Nat, v38 = .int .i64 i ∧ Aside0 (i ≤ Mv.length ∧ gk = Mv.length - i) ∧
      Aside0 (∃ m, MapAt w' Try.prog 3 w4.heap.size (intF encM (ofM P (finalG P ord).tos i)) m) ∧ Aside0 (Below w4.heap.size w4 w'))
    case atStart => exact ⟨0, rfl, ⟨Nat.zero_le _, rfl⟩, ⟨0, by unfold ofM; rw [← intF_none]; exact HM0.out⟩, HK0⟩
    case round =>
      obtain ⟨i, rfl, HI, HM, HK⟩ := hrel
      have hi := HI.out.1
      clear HM0 HK0
      by_cases hlt : i < Mv.length
      · have hlp : i < P.length := by have := HMl.out; omega
        clear hmm
        replace HR6 := Aside0.mk (Kd.C_below HR6.out HK.out)
        obtain ⟨adm, e, y0, y1, y2⟩ := at_T39 HR6.out (i : Int) (by omega) (by omega)
        cases e
        rw [HMv.out i hlp] at y0 y1 y2
        have hidk := HId.out i hlp
        have HOf : Aside0 (ofM P (finalG P ord).tos (i + 1) = fun f => if f = idP P i then some (outAt P (finalG P ord).tos i) else ofM P (finalG P ord).tos i f) := ⟨rfl⟩
        have HOu : Aside0 (encM (outAt P (finalG P ord).tos i) = .agg #[.int .i64 (idP P i), .int .i64 (ownP P i), .int .i64 (rd (finalG P ord).tos (i : Int))]) := ⟨rfl⟩
        have y0 : wr.cell? (adm.add (i * 3)) = some (.int .i64 (idP P i)) := by simpa only [Int.toNat_natCast, outAt, idP] using y0
        have y1 : wr.cell? ⟨(adm.add (i * 3)).block, (adm.add (i * 3)).off + 1, none⟩ = some (.int .i64 (ownP P i)) := by simpa only [Int.toNat_natCast, outAt, ownP] using y1
        have y2 : wr.cell? ⟨(adm.add (i * 3)).block, (adm.add (i * 3)).off + 2, none⟩ = some (.int .i64 (rd (finalG P ord).tos (i : Int))) := by simpa only [Int.toNat_natCast, outAt] using y2
        have s2 : (i : Int) < (Mv.length : Int) := by omega
        obtain ⟨m, hm⟩ := HM.out
        obtain ⟨w8, hr2, hm2, hg2, _⟩ := (hm.alloc (.cells #[.int .i64 (idP P i), .int .i64 (ownP P i), .int .i64 (rd (finalG P ord).tos (i : Int))] 39 (0, 0))).store keyInt Try.underlying45 (okI_key hidk) (encM (outAt P (finalG P ord).tos i))
        rw [intF_put, ← HOf.out] at hm2
        rw [HOu.out] at hr2
        have HM8 := Aside0.mk hm2
        have HK8 := Aside0.mk ((below_alloc HK.out _).grown hg2 (by have := HK.out.size; simp; omega) (by rintro k h; cases h; exact Nat.le_refl _))
        clear hm2 hg2 hm hidk HOf HOu HM
        generalize idP P i = id at *
        generalize ownP P i = ow at *
        generalize rd (finalG P ord).tos (i : Int) = x at *
        go_wp2
        go_roundg (Mv.length - (i + 1))
        case measure => have := HI.out; omega
        case rel => exact ⟨i + 1, by go_num, ⟨by omega, rfl⟩, ⟨_, HM8.out⟩, HK8⟩
      · obtain rfl : i = Mv.length := by omega
        obtain ⟨w6, hw6⟩ : ∃ x, x = wr := ⟨_, rfl⟩
        subst hw6
        clear HI hi hlt
        replace HR0 := Aside0.mk (Kd.C_below HR0.out HK.out)
        replace HR1 := Aside0.mk (Kd.C_below HR1.out HK.out)
        replace HR6 := Aside0.mk (Kd.C_below HR6.out HK.out)
        replace HR7 := Aside0.mk (Kd.C_below HR7.out HK.out)
        replace K2 := Aside0.mk (blk_below K2.out HK.out)
        replace HB := Aside0.mk (below_step HB.out HK.out)
        have HOf : Aside0 (∀ p : Nat, p < P.length → ofM P (finalG P ord).tos Mv.length (idP P p) = some (outAt P (finalG P ord).tos p)) := ⟨fun p hp => ofM_at HT.out.2 _ (by have := HMl.out; omega) (by have := HMl.out; omega)⟩
        have hm5 := HM.out.elim fun m hm => hm.lt
        have HG0 := Aside0.mk (MapAt.made w6 Try.prog 3)
        have HL0 := Aside0.mk (below_alloc (Below.refl w6.heap.size w6) (.map #[] 0))
        have HMM := HM
        have HB5 := Aside0.mk hm5
        clear HK HM hm5
        go_wp2
        clear hmm
        go_loopg [50] Rg.length (fun gk v50 w' => ∃ k : Nat, v50 = .int .i64 k ∧ Aside0 (k ≤ Rg.length ∧ gk = Rg.length - k) ∧
          Aside0 (∃ m, MapAt w' Try.prog 3 w6.heap.size (intF Value.bool (tkL (seenP P (ringsL P ord) k 0))) m) ∧ Aside0 (Below w6.heap.size w6 w'))
        case atStart => exact ⟨0, rfl, ⟨Nat.zero_le _, rfl⟩, ⟨0, by rw [seen_zero, tkL_nil, ← intF_none]; exact HG0.out⟩, HL0⟩
        case round =>
          obtain ⟨k, rfl, HI, HM, HK⟩ := hrel
          have hi := HI.out.1
          clear HG0 HL0
          by_cases hlt : k < Rg.length
          · have hkL : k < (ringsL P ord).length := by have := HRl.out.1; omega
            have hok := HRl.out.2 k hkL
            obtain ⟨C, hC⟩ : ∃ C, C = (ringsL P ord).getD k [] := ⟨_, rfl⟩
            have HC := Aside0.mk hC
            rw [← hC] at hok
            obtain ⟨ad7, Ar, cr, e, x0, x1, lr, gr⟩ := at_T47 HR7.out (k : Int) (by omega) (by omega)
            cases e
            simp only [Int.toNat_natCast] at x0 x1
            replace x0 := pw_cell_below HK.out x0
            replace x1 := pw_cell_below HK.out x1
            obtain ⟨rg, hrg⟩ : ∃ rg, rg = rd_T47 Rg (k : Int) := ⟨_, rfl⟩
            rw [← hrg] at x0 x1 lr gr hok
            clear hrg hC
            obtain ⟨ch, ms⟩ := rg
            have HOk := Aside0.mk hok
            have hml : ms.length = C.length := hok.len
            have hpos := hok.pos
            have HMr : Aside0 (Kd.C k39 w6 Ar ms.length ms) := ⟨gr⟩
            have HCr := Aside0.mk lr
            have x0 : wr.cell? (ad7.add (k * 2)) = some (.bool ch) := x0
            have x1 : wr.cell? ⟨(ad7.add (k * 2)).block, (ad7.add (k * 2)).off + 1, none⟩ = some (.slice Ar ms.length cr) := x1
            have HCl := Aside0.mk hml
            have HCs := Aside0.mk (HSm.out k hkL)
            have s1 : (k : Int) < (Rg.length : Int) := by omega
            have c0' : ((ms.length : Int) == 0) = false := by rw [beq_eq_false_iff_ne]; omega
            have hml0 : 0 < ms.length := by omega
            have hms9 : ms.length ≤ 1000 := by have := HCs.out; rw [← HC.out] at this; omega
            have HTwo : Aside0 (ch = false → 2 ≤ ms.length) := ⟨fun h => by have := hok.two h; omega⟩
            have HFree : Aside0 (ch = true → occR P (rd_T39 ms 0).f2 = false) := ⟨hok.free⟩
            clear hok gr lr hml hpos
            have K2r := Aside0.mk (blk_below K2.out HK.out)
            have hb1 := below_alloc (Below.refl wr.heap.size wr) (.cells #[.bool ch, .slice Ar ms.length cr] 47 (0, 0))
            have KR := Aside0.mk (blk_new wr (.cells #[.bool ch, .slice Ar ms.length cr] 47 (0, 0)))
            have zK2_0 := (blk_cell (blk_below K2r.out hb1) 0).trans rfl
            have zK2_1 := (blk_cell (blk_below K2r.out hb1) 1).trans rfl
            go_upto_region 18 with (fail)
            have HMa : Aside0 (∃ m, MapAt (wr.alloc (.cells #[.bool ch, .slice Ar ms.length cr] 47 (0, 0))) Try.prog 3 w6.heap.size (intF Value.bool (tkL (seenP P (ringsL P ord) k 0))) m) := ⟨HM.out.elim fun m hm => ⟨m, hm.alloc _⟩⟩
            have hgw := HK.out.size
            have HGa : Aside0 (w6.heap.size < wr.heap.size) := ⟨HM.out.elim fun m hm => hm.lt⟩
            have d0 := (blk_cell KR.out 0).trans rfl
            have d1 := (blk_cell KR.out 1).trans rfl
            replace HK := Aside0.mk (below_step HK.out hb1)
            obtain ⟨adr, e, f0, f1, f2⟩ := at_T39 HMr.out (0 : Int) (by omega) (show (0 : Int) < (ms.length : Int) by omega)
            cases e
            have f2 : w6.cell? ⟨adr.block, adr.off + 2, none⟩ = some (.int .i64 (rd_T39 ms 0).f2) := f2
            clear x0 x1 HM f0 f1 hb1
            generalize wr.alloc (.cells #[.bool ch, .slice (some adr) ms.length cr] 47 (0, 0)) = wa at *
            generalize wr.heap.size = ga at *
            replace f2 := pw_cell_below HK.out f2
            go_cut [80] (fun v80 wc => v80 = .bool false ∧ Aside0 (Below wa.heap.size wa wc))
            case first =>
              cases ch with
              | true =>
                obtain ⟨xf, hxf⟩ : ∃ x, x = (rd_T39 ms 0).f2 := ⟨_, rfl⟩
                have hocc := HFree.out rfl
                rw [← hxf] at f2 hocc
                obtain ⟨ko, ho⟩ := (occupied_ev F P xf (by omega)).rounds
                have HOc : Aside0 (cohousinglaw24_occupied.f ko F P xf = some false) := ⟨by rw [ho, hocc]⟩
                have HRa := Aside0.mk (Kd.C_below HR0.out HK.out)
                have HRb := Aside0.mk (Kd.C_below HR1.out HK.out)
                have d2 := f2
                clear ho hocc hxf f2
                refine wp_region_any (by kernel_rfl) ?_
                refine wpAny_of_held (S := fun W' => (W'.cell? ⟨ga, 0, none⟩ = some (.bool true) ∧ W'.cell? ⟨ga, 1, none⟩ = some (.slice (some adr) ms.length cr)) ∧ W'.cell? ⟨g2, 0, none⟩ = some (.slice A0 F.length c0) ∧ W'.cell? ⟨g2, 1, none⟩ = some (.slice A1 P.length c1) ∧ W'.cell? ⟨adr.block, adr.off + 2, none⟩ = some (.int .i64 xf)) _ _ _ _ ?_
                show wpAnyH _ _ _ _ _ 24 (Array.replicate 24 false) _ wa.drew
                have HS : (fun W' => (W'.cell? ⟨ga, 0, none⟩ = some (.bool true) ∧ W'.cell? ⟨ga, 1, none⟩ = some (.slice (some adr) ms.length cr)) ∧ W'.cell? ⟨g2, 0, none⟩ = some (.slice A0 F.length c0) ∧ W'.cell? ⟨g2, 1, none⟩ = some (.slice A1 P.length c1) ∧ W'.cell? ⟨adr.block, adr.off + 2, none⟩ = some (.int .i64 xf)) wa.drew := ⟨⟨d0, d1⟩, zK2_0, zK2_1, d2⟩
                refine take_held (v := .int .i64 (ms.length : Int)) 0 rfl (by kernel_rfl) (by kernel_rfl) (by kernel_rfl) (fun _ _ _ h => h) (by rfl) HS (fun w9 h9 => ?hy) ?_
                case hy => (obtain ⟨⟨a0, a1⟩, a2, a3, a4⟩ := h9; go_simp)
                try simp only [Act.put, List.setIfInBounds_toArray, List.set_cons_zero, List.set_cons_succ]
                refine take_held (v := .bool false) 1 rfl (by kernel_rfl) (by kernel_rfl) (by kernel_rfl) (fun _ _ _ h => h) (by rfl) HS (fun w9 h9 => ?hy) ?_
                case hy => (obtain ⟨⟨a0, a1⟩, a2, a3, a4⟩ := h9; go_simp)
                try simp only [Act.put, List.setIfInBounds_toArray, List.set_cons_zero, List.set_cons_succ]
                refine take_held (v := .bool false) 2 rfl (by kernel_rfl) (by kernel_rfl) (by kernel_rfl) (fun _ _ _ h => h) (by rfl) HS (fun w9 h9 => ?hy) ?_
                case hy => (obtain ⟨⟨a0, a1⟩, a2, a3, a4⟩ := h9; go_simp)
                try simp only [Act.put, List.setIfInBounds_toArray, List.set_cons_zero, List.set_cons_succ]
                refine take_held (v := .pointer (some ⟨ga, 0, none⟩)) 3 rfl (by kernel_rfl) (by kernel_rfl) (by kernel_rfl) (fun _ _ _ h => h) (by rfl) HS (fun w9 h9 => ?hy) ?_
                case hy => (obtain ⟨⟨a0, a1⟩, a2, a3, a4⟩ := h9; go_simp)
                try simp only [Act.put, List.setIfInBounds_toArray, List.set_cons_zero, List.set_cons_succ]
                refine take_held (v := .bool true) 4 rfl (by kernel_rfl) (by kernel_rfl) (by kernel_rfl) (fun _ _ _ h => h) (by rfl) HS (fun w9 h9 => ?hy) ?_
                case hy => (obtain ⟨⟨a0, a1⟩, a2, a3, a4⟩ := h9; go_simp)
                try simp only [Act.put, List.setIfInBounds_toArray, List.set_cons_zero, List.set_cons_succ]
                refine take_held (v := .bool true) 5 rfl (by kernel_rfl) (by kernel_rfl) (by kernel_rfl) (fun _ _ _ h => h) (by rfl) HS (fun w9 h9 => ?hy) ?_
                case hy => (obtain ⟨⟨a0, a1⟩, a2, a3, a4⟩ := h9; go_simp)
                try simp only [Act.put, List.setIfInBounds_toArray, List.set_cons_zero, List.set_cons_succ]
                refine take_held (v := .agg #[.slice A0 F.length c0, .slice A1 P.length c1]) 6 rfl (by kernel_rfl) (by kernel_rfl) (by kernel_rfl) (fun _ _ _ h => h) (by rfl) HS (fun w9 h9 => ?hy) ?_
                case hy => (obtain ⟨⟨a0, a1⟩, a2, a3, a4⟩ := h9; go_simp)
                try simp only [Act.put, List.setIfInBounds_toArray, List.set_cons_zero, List.set_cons_succ]
                refine take_held (v := .pointer (some ⟨ga, 1, none⟩)) 7 rfl (by kernel_rfl) (by kernel_rfl) (by kernel_rfl) (fun _ _ _ h => h) (by rfl) HS (fun w9 h9 => ?hy) ?_
                case hy => (obtain ⟨⟨a0, a1⟩, a2, a3, a4⟩ := h9; go_simp)
                try simp only [Act.put, List.setIfInBounds_toArray, List.set_cons_zero, List.set_cons_succ]
                refine take_held (v := .slice (some adr) ms.length cr) 8 rfl (by kernel_rfl) (by kernel_rfl) (by kernel_rfl) (fun _ _ _ h => h) (by rfl) HS (fun w9 h9 => ?hy) ?_
                case hy => (obtain ⟨⟨a0, a1⟩, a2, a3, a4⟩ := h9; go_simp)
                try simp only [Act.put, List.setIfInBounds_toArray, List.set_cons_zero, List.set_cons_succ]
                refine take_held (v := .pointer (some adr)) 9 rfl (by kernel_rfl) (by kernel_rfl) (by kernel_rfl) (fun _ _ _ h => h) (by rfl) HS (fun w9 h9 => ?hy) ?_
                case hy => (obtain ⟨⟨a0, a1⟩, a2, a3, a4⟩ := h9; go_simp)
                try simp only [Act.put, List.setIfInBounds_toArray, List.set_cons_zero, List.set_cons_succ]
                refine take_held (v := .pointer (some ⟨adr.block, adr.off + 2, none⟩)) 10 rfl (by kernel_rfl) (by kernel_rfl) (by kernel_rfl) (fun _ _ _ h => h) (by rfl) HS (fun w9 h9 => ?hy) ?_
                case hy => (obtain ⟨⟨a0, a1⟩, a2, a3, a4⟩ := h9; go_simp)
                try simp only [Act.put, List.setIfInBounds_toArray, List.set_cons_zero, List.set_cons_succ]
                refine take_held (v := .int .i64 xf) 11 rfl (by kernel_rfl) (by kernel_rfl) (by kernel_rfl) (fun _ _ _ h => h) (by rfl) HS (fun w9 h9 => ?hy) ?_
                case hy => (obtain ⟨⟨a0, a1⟩, a2, a3, a4⟩ := h9; go_simp)
                try simp only [Act.put, List.setIfInBounds_toArray, List.set_cons_zero, List.set_cons_succ]
                refine only_held 12 rfl (by kernel_rfl) (fun K hK => ?_)
                rw [if_pos (by rfl)]
                go_simp
                (go_at_call 26)
                (with_reducible refine (cohousinglaw24_occupied.calls ko A0 c0 F A1 c1 P xf false _ (Kd.C_drew HRa.out) HC0.out (Kd.C_drew HRb.out) HC1.out HOc.out).mono ?_)
                rintro e w18 ⟨rfl, hb⟩
                have HBo := Aside0.mk (below_step (below_drew (Below.refl wa.heap.size wa)) hb)
                have HS2 : (fun W' => (W'.cell? ⟨ga, 0, none⟩ = some (.bool true) ∧ W'.cell? ⟨ga, 1, none⟩ = some (.slice (some adr) ms.length cr)) ∧ W'.cell? ⟨g2, 0, none⟩ = some (.slice A0 F.length c0) ∧ W'.cell? ⟨g2, 1, none⟩ = some (.slice A1 P.length c1) ∧ W'.cell? ⟨adr.block, adr.off + 2, none⟩ = some (.int .i64 xf)) w18 := ⟨⟨pw_cell_below HBo.out d0, pw_cell_below HBo.out d1⟩, pw_cell_below HBo.out zK2_0, pw_cell_below HBo.out zK2_1, pw_cell_below HBo.out d2⟩
                refine hK.out _ _ HS2 ?_
                try simp only [Act.put, List.setIfInBounds_toArray, List.set_cons_zero, List.set_cons_succ]
                clear hK K HS hb
                have HS := HS2
                clear HS2
                refine take_held (v := .bool false) 13 rfl (by kernel_rfl) (by kernel_rfl) (by kernel_rfl) (fun _ _ _ h => h) (by rfl) HS (fun w9 h9 => ?hy) ?_
                case hy => (obtain ⟨⟨a0, a1⟩, a2, a3, a4⟩ := h9; go_simp)
                try simp only [Act.put, List.setIfInBounds_toArray, List.set_cons_zero, List.set_cons_succ]
                refine take_held (v := .bool false) 14 rfl (by kernel_rfl) (by kernel_rfl) (by kernel_rfl) (fun _ _ _ h => h) (by rfl) HS (fun w9 h9 => ?hy) ?_
                case hy => (obtain ⟨⟨a0, a1⟩, a2, a3, a4⟩ := h9; go_simp)
                try simp only [Act.put, List.setIfInBounds_toArray, List.set_cons_zero, List.set_cons_succ]
                refine take_held (v := .bool false) 15 rfl (by kernel_rfl) (by kernel_rfl) (by kernel_rfl) (fun _ _ _ h => h) (by rfl) HS (fun w9 h9 => ?hy) ?_
                case hy => (obtain ⟨⟨a0, a1⟩, a2, a3, a4⟩ := h9; go_simp)
                try simp only [Act.put, List.setIfInBounds_toArray, List.set_cons_zero, List.set_cons_succ]
                refine take_held (v := .pointer (some ⟨ga, 0, none⟩)) 16 rfl (by kernel_rfl) (by kernel_rfl) (by kernel_rfl) (fun _ _ _ h => h) (by rfl) HS (fun w9 h9 => ?hy) ?_
                case hy => (obtain ⟨⟨a0, a1⟩, a2, a3, a4⟩ := h9; go_simp)
                try simp only [Act.put, List.setIfInBounds_toArray, List.set_cons_zero, List.set_cons_succ]
                refine take_held (v := .bool true) 17 rfl (by kernel_rfl) (by kernel_rfl) (by kernel_rfl) (fun _ _ _ h => h) (by rfl) HS (fun w9 h9 => ?hy) ?_
                case hy => (obtain ⟨⟨a0, a1⟩, a2, a3, a4⟩ := h9; go_simp)
                try simp only [Act.put, List.setIfInBounds_toArray, List.set_cons_zero, List.set_cons_succ]
                refine take_held (v := .bool false) 18 rfl (by kernel_rfl) (by kernel_rfl) (by kernel_rfl) (fun _ _ _ h => h) (by rfl) HS (fun w9 h9 => ?hy) ?_
                case hy => (obtain ⟨⟨a0, a1⟩, a2, a3, a4⟩ := h9; go_simp)
                try simp only [Act.put, List.setIfInBounds_toArray, List.set_cons_zero, List.set_cons_succ]
                refine take_held (v := .bool false) 19 rfl (by kernel_rfl) (by kernel_rfl) (by kernel_rfl) (fun _ _ _ h => h) (by rfl) HS (fun w9 h9 => ?hy) ?_
                case hy => (obtain ⟨⟨a0, a1⟩, a2, a3, a4⟩ := h9; go_simp)
                try simp only [Act.put, List.setIfInBounds_toArray, List.set_cons_zero, List.set_cons_succ]
                refine skip_held 20 rfl (by kernel_rfl) (by kernel_rfl) (by kernel_rfl) (fun _ _ _ h => h) (by rfl) HS ?_
                try simp only [Act.put, List.setIfInBounds_toArray, List.set_cons_zero, List.set_cons_succ]
                refine skip_held 21 rfl (by kernel_rfl) (by kernel_rfl) (by kernel_rfl) (fun _ _ _ h => h) (by rfl) HS ?_
                try simp only [Act.put, List.setIfInBounds_toArray, List.set_cons_zero, List.set_cons_succ]
                refine take_held (v := .bool false) 22 rfl (by kernel_rfl) (by kernel_rfl) (by kernel_rfl) (fun _ _ _ h => h) (by rfl) HS (fun w9 h9 => ?hy) ?_
                case hy => (obtain ⟨⟨a0, a1⟩, a2, a3, a4⟩ := h9; go_simp)
                try simp only [Act.put, List.setIfInBounds_toArray, List.set_cons_zero, List.set_cons_succ]
                refine take_held (v := .bool false) 23 rfl (by kernel_rfl) (by kernel_rfl) (by kernel_rfl) (fun _ _ _ h => h) (by rfl) HS (fun w9 h9 => ?hy) ?_
                case hy => (obtain ⟨⟨a0, a1⟩, a2, a3, a4⟩ := h9; go_simp)
                try simp only [Act.put, List.setIfInBounds_toArray, List.set_cons_zero, List.set_cons_succ]
                refine done_held (by kernel_rfl) ?_
                go_wp2
                go_meet
                case rel => exact ⟨rfl, HBo⟩
              | false =>
                have htwo : decide ((ms.length : Int) < 2) = false := decide_eq_false (by have := HTwo.out rfl; omega)
                clear f2
                go_quiet (fail)
                go_wp2
                go_meet
                case rel => exact ⟨rfl, ⟨pw_below_drewN (Below.refl _ _) _⟩⟩
            case rest =>
              obtain ⟨rfl, HBc⟩ := hcut
              replace HK := Aside0.mk (below_step HK.out HBc.out)
              have KRc := Aside0.mk (blk_below KR.out HBc.out)
              have HMc : Aside0 (∃ m, MapAt wc Try.prog 3 w6.heap.size (intF Value.bool (tkL (seenP P (ringsL P ord) k 0))) m) := ⟨HMa.out.elim fun m hm => ⟨m, hm.kept HBc.out⟩⟩
              have e0 := (blk_cell KRc.out 0).trans rfl
              have e1 := (blk_cell KRc.out 1).trans rfl
              clear d0 d1 f2 zK2_0 zK2_1 KR HMa HBc c0' K2r
              go_upto_region 21 with (fail)
              go_loopg [84] ms.length (fun gk v84 w' => ∃ i : Nat, v84 = .int .i64 i ∧ Aside0 (i ≤ ms.length ∧ gk = ms.length - i) ∧
                Aside0 (∃ m, MapAt w' Try.prog 3 w6.heap.size (intF Value.bool (tkL (seenP P (ringsL P ord) k i))) m) ∧ Aside0 (Below w6.heap.size w6 w') ∧ Aside0 (w'.heap[ga]? = some (.cells #[.bool ch, .slice (some adr) ms.length cr] 47 (0, 0))))
              case atStart => exact ⟨0, rfl, ⟨Nat.zero_le _, rfl⟩, HMc, HK, KRc⟩
              case round =>
                clear HMc HK KRc e0 e1
                obtain ⟨i, rfl, HJ, HM, HK, KR⟩ := hrel
                have hj := HJ.out.1
                by_cases hlm : i < ms.length
                · have hiC : i < C.length := by have := HCl.out; omega
                  obtain ⟨p, hp⟩ : ∃ p, p = C.getD i 0 := ⟨_, rfl⟩
                  have HP := Aside0.mk hp
                  have hplt : p < P.length := by rw [hp]; exact HOk.out.lt i hiC
                  have hmvp : rd_T39 ms (i : Int) = outAt P (finalG P ord).tos p := by rw [hp]; exact HOk.out.mv i hiC
                  have hne := HOk.out.ne i hiC
                  rw [← hp] at hne
                  have HLink : Aside0 (ch = true → ∀ j : Nat, j + 1 = i → (outAt P (finalG P ord).tos p).f2 = (rd_T39 ms (j : Int)).f1) := ⟨fun h j hj => by
                    rw [HOk.out.mv j (by omega), hp, ← hj]; exact HOk.out.link h j (by omega)⟩
                  have HCyc : Aside0 (ch = false → (outAt P (finalG P ord).tos p).f2 = (rd_T39 ms (((i + 1) % ms.length : Nat) : Int)).f1) := ⟨fun h => by
                    rw [HOk.out.mv _ (by rw [HCl.out]; exact Nat.mod_lt _ (by omega)), hp, HCl.out]; exact HOk.out.cyc h i hiC⟩
                  have hseen := seen_not HT.out.1 HT.out.2 hkL (show i < ((ringsL P ord).getD k []).length by rw [← HC.out]; exact hiC)
                  have hnext := seen_next (P := P) (L := ringsL P ord) (k := k) (i := i) (by rw [← HC.out]; exact hiC)
                  rw [← HC.out, ← hp] at hseen hnext
                  have HNx := Aside0.mk hnext
                  have HSe : Aside0 (tkL (seenP P (ringsL P ord) k i) (idP P p) = none) := ⟨by unfold tkL; rw [if_neg hseen]⟩
                  have hkey := HId.out p hplt
                  have HOfp := Aside0.mk (HOf.out p hplt)
                  clear hp hseen hnext
                  obtain ⟨adm, e, y0, y1, y2⟩ := at_T39 (Kd.C_below HMr.out HK.out) (i : Int) (by omega) (by omega)
                  cases e
                  rw [hmvp] at y0 y1 y2
                  have y0 : wr.cell? (adr.add (i * 3)) = some (.int .i64 (idP P p)) := by simpa only [Int.toNat_natCast, outAt, idP] using y0
                  have y1 : wr.cell? ⟨(adr.add (i * 3)).block, (adr.add (i * 3)).off + 1, none⟩ = some (.int .i64 (outAt P (finalG P ord).tos p).f1) := by simpa only [Int.toNat_natCast] using y1
                  have y2 : wr.cell? ⟨(adr.add (i * 3)).block, (adr.add (i * 3)).off + 2, none⟩ = some (.int .i64 (outAt P (finalG P ord).tos p).f2) := by simpa only [Int.toNat_natCast] using y2
                  have HOu : Aside0 (encM (outAt P (finalG P ord).tos p) = .agg #[.int .i64 (idP P p), .int .i64 (outAt P (finalG P ord).tos p).f1, .int .i64 (outAt P (finalG P ord).tos p).f2]) := ⟨rfl⟩
                  have hkk := okI_key hkey
                  have HMMr : Aside0 (∃ m, MapAt wr Try.prog 3 w4.heap.size (intF encM (ofM P (finalG P ord).tos Mv.length)) m) := ⟨HMM.out.elim fun m hm => ⟨m, hm.kept HK.out⟩⟩
                  have HGw := HK.out.size
                  generalize hid : idP P p = id at *
                  generalize ht1 : (outAt P (finalG P ord).tos p).f1 = t1 at *
                  generalize ht2 : (outAt P (finalG P ord).tos p).f2 = t2 at *
                  generalize hou : outAt P (finalG P ord).tos p = ou at *
                  have hb2 := below_alloc (Below.refl wr.heap.size wr) (.cells #[.int .i64 id, .int .i64 t1, .int .i64 t2] 39 (0, 0))
                  obtain ⟨m, hm⟩ := HM.out
                  obtain ⟨m2, hm2⟩ := HMMr.out
                  have hm' := hm.alloc (.cells #[.int .i64 id, .int .i64 t1, .int .i64 t2] 39 (0, 0))
                  have hm2' := hm2.alloc (.cells #[.int .i64 id, .int .i64 t1, .int .i64 t2] 39 (0, 0))
                  have hlk1 : (Instr.lookup 37 (.map (some w6.heap.size)) (.int .i64 id) false).run Try.prog (wr.alloc (.cells #[.int .i64 id, .int .i64 t1, .int .i64 t2] 39 (0, 0))) = .ok (.bool false) (wr.alloc (.cells #[.int .i64 id, .int .i64 t1, .int .i64 t2] 39 (0, 0))) := by
                    rw [hm'.look false keyInt Try.underlying37 (zeroB _) hkk, intF_at, looked_false, HSe.out]; rfl
                  have hlk2 : (Instr.lookup 45 (.map (some w4.heap.size)) (.int .i64 id) false).run Try.prog (wr.alloc (.cells #[.int .i64 id, .int .i64 t1, .int .i64 t2] 39 (0, 0))) = .ok (.agg #[.int .i64 id, .int .i64 t1, .int .i64 t2]) (wr.alloc (.cells #[.int .i64 id, .int .i64 t1, .int .i64 t2] 39 (0, 0))) := by
                    rw [hm2'.look false keyInt Try.underlying45 (zeroM _) hkk, intF_at, looked_false, HOfp.out, ← HOu.out]; rfl
                  obtain ⟨w8, hr2, hm8, hg2, hs8⟩ := hm'.store keyInt Try.underlying37 hkk (.bool true)
                  rw [intF_put, tkL_put, ← HNx.out] at hm8
                  have HM8 := Aside0.mk hm8
                  have HK8 := Aside0.mk ((below_step HK.out hb2).grown hg2 (by simp; omega) (by rintro k h; cases h; exact Nat.le_refl _))
                  have KR8 := Aside0.mk (blk_grown (blk_below KR.out hb2) hg2 (by have := HGa.out; intro e; injection e with e; omega))
                  have KM8 := Aside0.mk (blk_grown (blk_new wr (.cells #[.int .i64 id, .int .i64 t1, .int .i64 t2] 39 (0, 0))) hg2 (by have h1 := HGa.out; have h2 := blk_lt KR.out; intro e; injection e with e; omega))
                  have n1 : (t1 == t2) = false := by rw [beq_eq_false_iff_ne]; exact hne
                  have neq := eqA39
                  have s2 : (i : Int) < (ms.length : Int) := by omega
                  clear hm hm2 hm' hm2' hm8 hb2 HMMr HM hkk hne HSe HOfp HOu hkey hplt hiC
                  go_upto_region 26 with (fail)
                  have e0 := (blk_cell KR8.out 0).trans rfl
                  have e1 := (blk_cell KR8.out 1).trans rfl
                  have e3 := (blk_cell KM8.out 1).trans rfl
                  have e4 := (blk_cell KM8.out 2).trans rfl
                  have n2 : (t2 != t2) = false := by simp
                  have HRw := Aside0.mk (Kd.C_below HMr.out HK8.out)
                  clear hlk1 hlk2 hr2 y0 y1 y2 neq n1
                  generalize hgx : wr.heap.size = gx at *
                  clear hgx
                  cases ch with
                  | true =>
                    by_cases hi0 : i = 0
                    · have q0 : decide ((0 : Int) < (i : Int)) = false := decide_eq_false (by omega)
                      have q1 : decide (0 < i) = false := decide_eq_false (by omega)
                      clear hi0
                      go_quiet (fail)
                      go_wp2
                      go_roundg (ms.length - (i + 1))
                      case measure => have := HJ.out; omega
                      case rel => exact ⟨i + 1, by go_num, ⟨by omega, rfl⟩, ⟨_, HM8.out.drewN _⟩, ⟨pw_below_drewN HK8.out _⟩, ⟨blk_drewN KR8.out _⟩⟩
                    · obtain ⟨j, hj⟩ : ∃ j, j + 1 = i := ⟨i - 1, by omega⟩
                      have q0 : decide ((0 : Int) < (i : Int)) = true := decide_eq_true (by omega)
                      have q1 : decide (0 < i) = true := decide_eq_true (by omega)
                      obtain ⟨adx, e, g0, g1, g3⟩ := at_T39 HRw.out (j : Int) (by omega) (by omega)
                      cases e
                      rw [← HLink.out rfl j hj] at g1
                      have g1 : w8.cell? ⟨(adr.add (j * 3)).block, (adr.add (j * 3)).off + 1, none⟩ = some (.int .i64 t2) := by simpa only [Int.toNat_natCast] using g1
                      have v0 : (i : Int) - 1 = (j : Int) := by omega
                      have v1 : IntKind.i64.wrap (j : Int) = (j : Int) := IntWalk.i64_in _ (by omega)
                      have v2 : (0 : Int) ≤ (j : Int) := by omega
                      have v3 : (j : Int) < (ms.length : Int) := by omega
                      clear hi0 hj g0 g3
                      go_quiet (fail)
                      go_wp2
                      go_roundg (ms.length - (i + 1))
                      case measure => have := HJ.out; omega
                      case rel => exact ⟨i + 1, by go_num, ⟨by omega, rfl⟩, ⟨_, HM8.out.drewN _⟩, ⟨pw_below_drewN HK8.out _⟩, ⟨blk_drewN KR8.out _⟩⟩
                  | false =>
                    obtain ⟨j, hj⟩ : ∃ j, j = (i + 1) % ms.length := ⟨_, rfl⟩
                    have hjn : j < ms.length := by rw [hj]; exact Nat.mod_lt _ (by omega)
                    obtain ⟨adx, e, g0, g1, g3⟩ := at_T39 HRw.out (j : Int) (by omega) (by omega)
                    cases e
                    have hcy := HCyc.out rfl
                    rw [← hj] at hcy
                    rw [← hcy] at g1
                    have g1 : w8.cell? ⟨(adr.add (j * 3)).block, (adr.add (j * 3)).off + 1, none⟩ = some (.int .i64 t2) := by simpa only [Int.toNat_natCast] using g1
                    have v4 : ((i : Int) + 1) % (ms.length : Int) = (j : Int) := by rw [hj]; simp
                    have v5 : ((i : Int) + 1).tmod (ms.length : Int) = (j : Int) := by rw [Int.tmod_eq_emod_of_nonneg (by omega)]; exact v4
                    have v1 : IntKind.i64.wrap ((i : Int) + 1) = (i : Int) + 1 := IntWalk.i64_in _ (by omega)
                    have v2 : (0 : Int) ≤ (j : Int) := by omega
                    have v3 : (j : Int) < (ms.length : Int) := by omega
                    have v6 : ((ms.length : Int) == 0) = false := by rw [beq_eq_false_iff_ne]; omega
                    clear hj hcy g0 g3 hjn
                    go_quiet (fail)
                    go_wp2
                    go_roundg (ms.length - (i + 1))
                    case measure => have := HJ.out; omega
                    case rel => exact ⟨i + 1, by go_num, ⟨by omega, rfl⟩, ⟨_, HM8.out.drewN _⟩, ⟨pw_below_drewN HK8.out _⟩, ⟨blk_drewN KR8.out _⟩⟩
                · obtain rfl : i = ms.length := by omega
                  have hsr := seen_ring (P := P) (L := ringsL P ord) (k := k) hkL
                  rw [← HC.out, ← HCl.out] at hsr
                  rw [hsr] at HM
                  clear hsr HJ hj hlm
                  go_wp2
                  go_roundg (Rg.length - (k + 1))
                  case measure => have := HI.out; omega
                  case rel => exact ⟨k + 1, by go_num, ⟨by omega, rfl⟩, HM, HK⟩
          · obtain rfl : k = Rg.length := by omega
            rw [HRl.out.1] at HM
            obtain ⟨w7, hw7⟩ : ∃ x, x = wr := ⟨_, rfl⟩
            subst hw7
            have hm7 := HM.out.elim fun m hm => hm.lt
            have HG7 := Aside0.mk (Below.refl w7.heap.size w7)
            have HKx := Aside0.mk (Kd.C_below HR6.out HK.out)
            replace HB := Aside0.mk (below_step HB.out HK.out)
            clear HI hi hlt HK
            go_wp2
            go_loopg [152] Mv.length (fun gk v152 w' => ∃ i : Nat, v152 = .int .i64 i ∧ Aside0 (i ≤ Mv.length ∧ gk = Mv.length - i) ∧ Aside0 (Below w7.heap.size w7 w'))
            case atStart => exact ⟨0, rfl, ⟨Nat.zero_le _, rfl⟩, HG7⟩
            case round =>
              clear HG7
              obtain ⟨i, rfl, HI, HK⟩ := hrel
              have hi := HI.out.1
              by_cases hlt : i < Mv.length
              · have hlp : i < P.length := by have := HMl.out; omega
                obtain ⟨adm, e, y0, y1, y2⟩ := at_T39 (Kd.C_below HKx.out HK.out) (i : Int) (by omega) (by omega)
                cases e
                rw [HMv.out i hlp] at y0 y1 y2
                have y0 : wr.cell? (adm.add (i * 3)) = some (.int .i64 (idP P i)) := by simpa only [Int.toNat_natCast, outAt, idP] using y0
                have y1 : wr.cell? ⟨(adm.add (i * 3)).block, (adm.add (i * 3)).off + 1, none⟩ = some (.int .i64 (outAt P (finalG P ord).tos i).f1) := by simpa only [Int.toNat_natCast] using y1
                have y2 : wr.cell? ⟨(adm.add (i * 3)).block, (adm.add (i * 3)).off + 2, none⟩ = some (.int .i64 (outAt P (finalG P ord).tos i).f2) := by simpa only [Int.toNat_natCast] using y2
                have hkk := okI_key (HId.out i hlp)
                have hall := fun h => seen_all HT.out.1 hlp h
                have s2 : (i : Int) < (Mv.length : Int) := by omega
                obtain ⟨m, hm⟩ := HM.out
                have hm' := (hm.kept HK.out).alloc (.cells #[.int .i64 (idP P i), .int .i64 (outAt P (finalG P ord).tos i).f1, .int .i64 (outAt P (finalG P ord).tos i).f2] 39 (0, 0))
                have hb2 := below_alloc HK.out (.cells #[.int .i64 (idP P i), .int .i64 (outAt P (finalG P ord).tos i).f1, .int .i64 (outAt P (finalG P ord).tos i).f2] 39 (0, 0))
                have HB2 := Aside0.mk hb2
                generalize idP P i = id at *
                generalize (outAt P (finalG P ord).tos i).f1 = t1 at *
                generalize (outAt P (finalG P ord).tos i).f2 = t2 at *
                by_cases hin : id ∈ seenP P (ringsL P ord) (ringsL P ord).length 0
                · have hlk : (Instr.lookup 37 (.map (some w6.heap.size)) (.int .i64 id) false).run Try.prog (wr.alloc (.cells #[.int .i64 id, .int .i64 t1, .int .i64 t2] 39 (0, 0))) = .ok (.bool true) (wr.alloc (.cells #[.int .i64 id, .int .i64 t1, .int .i64 t2] 39 (0, 0))) := by
                    rw [hm'.look false keyInt Try.underlying37 (zeroB _) hkk, intF_at, looked_false]; unfold tkL; rw [if_pos hin]; rfl
                  clear hin hall hkk hm hm' hb2 hm7
                  go_wp2
                  go_roundg (Mv.length - (i + 1))
                  case measure => have := HI.out; omega
                  case rel => exact ⟨i + 1, by go_num, ⟨by omega, rfl⟩, HB2⟩
                · have hlk : (Instr.lookup 37 (.map (some w6.heap.size)) (.int .i64 id) false).run Try.prog (wr.alloc (.cells #[.int .i64 id, .int .i64 t1, .int .i64 t2] 39 (0, 0))) = .ok (.bool false) (wr.alloc (.cells #[.int .i64 id, .int .i64 t1, .int .i64 t2] 39 (0, 0))) := by
                    rw [hm'.look false keyInt Try.underlying37 (zeroB _) hkk, intF_at, looked_false]; unfold tkL; rw [if_neg hin]; rfl
                  have hne : (t1 != t2) = false := by rw [hall hin]; simp
                  clear hin hall hkk hm hm' hb2 hm7
                  go_wp2
                  go_roundg (Mv.length - (i + 1))
                  case measure => have := HI.out; omega
                  case rel => exact ⟨i + 1, by go_num, ⟨by omega, rfl⟩, HB2⟩
              · obtain rfl : i = Mv.length := by omega
                have hB := below_step HB.out HK.out
                clear HM HK
                go_wp2
                go_ret
                exact ⟨rfl, hB⟩
end Go.Proofs.Ytjgnkhfgmpaljaa.P
