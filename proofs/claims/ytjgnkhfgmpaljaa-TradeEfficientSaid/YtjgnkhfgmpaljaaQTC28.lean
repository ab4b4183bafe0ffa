/- Lemmas, readings of functions as plain Lean functions and contracts of functions of the program, for the claimed theorem; each one's conditions stand in its statement. -/
import Derived.Test.YtjgnkhfgmpaljaaQTC24
import Derived.Outline
import Derived.IntWalk
import Derived.Test.YtjgnkhfgmpaljaaQTC27
namespace Go.Proofs.Ytjgnkhfgmpaljaa.P
open Go.RowKit Go.Proofs.YtjgnkhfgmpaljaaW.PrintWords Go.Proofs.YtjgnkhfgmpaljaaW.PrintLast Go.Proofs.YtjgnkhfgmpaljaaW.PrintMore Go.Proofs.Ytjgnkhfgmpaljaa.M
set_option linter.unusedVariables false
set_option linter.unusedSimpArgs false
set_option maxHeartbeats 8000000 in
set_option maxRecDepth 100000 in
theorem cohousinglaw24_TradeEfficient.calls (A0 : Option Addr) (c0 : Nat) (F : List S53) (A1 : Option Addr) (c1 : Nat) (P : List S41) (A2 : Option Addr) (c2 : Nat) (ord : List Int) (A3 : Option Addr) (c3 : Nat) (oth : List Int) (w : World)
    (hr0 : Kd.C k53 w A0 F.length F) (hc0 : F.length ≤ c0) (hr1 : Kd.C k41 w A1 P.length P) (hc1 : P.length ≤ c1) (hr2 : Kd.C (Kd.int .i64) w A2 ord.length ord) (hc2 : ord.length ≤ c2) (hr3 : Kd.C (Kd.int .u8) w A3 oth.length oth) (hc3 : oth.length ≤ c3)
    (wm : wf25 ⟨F, P⟩) (wo : wfL ord) (ww : oth.length ≤ maxLen ∧ ∀ x ∈ oth, (Lit.int .u8 x).wf = true) :
    Calls Try.prog 6 #[.agg #[.slice A0 F.length c0, .slice A1 P.length c1], .slice A2 ord.length c2, .slice A3 oth.length c3] w fun e w' => e = .returned (.bool true) ∧ Below w.heap.size w w' := by
  have hF : ∀ x ∈ F, okI x.f0 ∧ okI x.f1 := fun x hx => ⟨wfI_okI (wm.1.2 x hx).1, wfI_okI (wm.1.2 x hx).2⟩
  have hP : ∀ p ∈ P, okI p.f1 ∧ ∀ f ∈ p.f2, okI f := fun p hp => ⟨wfI_okI (wm.2.2 p hp).2.1, fun f hf => wfI_okI ((wm.2.2 p hp).2.2.2 f hf)⟩
  have hO : ∀ x ∈ oth, 0 ≤ x ∧ x ≤ 255 := fun x hx => by
    have h := ww.2 x hx
    have h1 : IntKind.u8.min = 0 := by decide
    have h2 : IntKind.u8.max = 255 := by decide
    simp [Lit.wf] at h; omega
  have hmP : P.length ≤ 9223372036854775807 := by have := wm.2.1; simp only [maxLen] at this; exact this
  have hmW : oth.length ≤ 9223372036854775807 := by have := ww.1; simp only [maxLen] at this; exact this
  obtain ⟨ku, hu⟩ := (usable_ev F P ord).rounds
  have HU := Aside0.mk hu
  have HH : Aside0 (cohousinglaw24_head.f = some true) := ⟨rfl⟩
  have hu25 := Try.underlying25
  have hu41 := Try.underlying41
  have HR0 := Aside0.mk hr0
  have HR1 := Aside0.mk hr1
  have HR2 := Aside0.mk hr2
  have HR3 := Aside0.mk hr3
  have HC0 := Aside0.mk hc0
  have HC1 := Aside0.mk hc1
  have HC2 := Aside0.mk hc2
  have HC3 := Aside0.mk hc3
  have HB := Aside0.mk (Below.refl w.heap.size w)
  clear hr0 hr1 hr2 hr3 hc0 hc1 hc2 hc3 wm wo ww hu
  cases hu : useR F P ord with
  | false =>
    rw [hu] at HU
    clear hu hF hP hO
    go_enter Try.func6, Try.ntmps6
    go_wp2_with (first
      | ((with_reducible refine gate_dst (N := 3) rfl ?_); refine box_event ?hg (N := 3) ?hd (cs := #[.slice A0 F.length c0, .slice A1 P.length c1]) (t := 25) ?hr ?_; (case hd => rfl); (case hg => rfl); (case hr => first | (go_simp; done) | (go_simp; rfl)); intro g3 hg w1 hbox hb; have Gg3 := Aside0.mk hg; clear hg; replace HB := Aside0.mk (below_step HB.out hb); replace HR0 := Aside0.mk (Kd.C_below HR0.out hb); replace HR1 := Aside0.mk (Kd.C_below HR1.out hb); replace HR2 := Aside0.mk (Kd.C_below HR2.out hb); replace HR3 := Aside0.mk (Kd.C_below HR3.out hb); have K3 := Aside0.mk hbox; clear hbox hb; have zK3_0 : w1.cell? ⟨g3, 0, none⟩ = some (.slice A0 F.length c0) := (blk_cell K3.out 0).trans rfl; have zK3_1 : w1.cell? ⟨g3, 1, none⟩ = some (.slice A1 P.length c1) := (blk_cell K3.out 1).trans rfl)
      | (go_at_call 16; (with_reducible refine (cohousinglaw24_head.calls true _ HH.out).mono ?_); rintro e w2 ⟨rfl, hb⟩; replace HB := Aside0.mk (below_step HB.out hb); replace HR0 := Aside0.mk (Kd.C_below HR0.out hb); replace HR1 := Aside0.mk (Kd.C_below HR1.out hb); replace HR2 := Aside0.mk (Kd.C_below HR2.out hb); replace HR3 := Aside0.mk (Kd.C_below HR3.out hb); replace K3 := Aside0.mk (blk_below K3.out hb); clear zK3_0 zK3_1; have zK3_0 : w2.cell? ⟨g3, 0, none⟩ = some (.slice A0 F.length c0) := (blk_cell K3.out 0).trans rfl; have zK3_1 : w2.cell? ⟨g3, 1, none⟩ = some (.slice A1 P.length c1) := (blk_cell K3.out 1).trans rfl; clear hb)
      | (go_at_call 22; (with_reducible refine (cohousinglaw24_usable.calls ku A0 c0 F A1 c1 P A2 c2 ord false _ HR0.out HC0.out HR1.out HC1.out HR2.out HC2.out HU.out).mono ?_); rintro e w3 ⟨rfl, hb⟩; replace HB := Aside0.mk (below_step HB.out hb); replace HR0 := Aside0.mk (Kd.C_below HR0.out hb); replace HR1 := Aside0.mk (Kd.C_below HR1.out hb); replace HR2 := Aside0.mk (Kd.C_below HR2.out hb); replace HR3 := Aside0.mk (Kd.C_below HR3.out hb); replace K3 := Aside0.mk (blk_below K3.out hb); clear zK3_0 zK3_1; have zK3_0 : w3.cell? ⟨g3, 0, none⟩ = some (.slice A0 F.length c0) := (blk_cell K3.out 0).trans rfl; have zK3_1 : w3.cell? ⟨g3, 1, none⟩ = some (.slice A1 P.length c1) := (blk_cell K3.out 1).trans rfl; clear hb))
    go_ret
    exact ⟨rfl, HB.out⟩
  | true =>
    rw [hu] at HU
    obtain ⟨hb, hi, hfine⟩ := use_fine hu hF hP
    have hP20 : P.length ≤ 1000 := by have := hfine.n; omega
    have hF20 : F.length ≤ 20 := by unfold useR at hu; rw [Bool.and_eq_true] at hu; exact (fewR_iff.1 hu.1).1
    clear hu
    by_cases hw : oth.length < P.length
    · have q0 : decide (oth.length < P.length) = true := decide_eq_true hw
      clear hb hi hfine hF hP hP20 hF20 hw hO
      go_enter Try.func6, Try.ntmps6
      go_wp2_with (first
        | ((with_reducible refine gate_dst (N := 3) rfl ?_); refine box_event ?hg (N := 3) ?hd (cs := #[.slice A0 F.length c0, .slice A1 P.length c1]) (t := 25) ?hr ?_; (case hd => rfl); (case hg => rfl); (case hr => first | (go_simp; done) | (go_simp; rfl)); intro g3 hg w1 hbox hb; have Gg3 := Aside0.mk hg; clear hg; replace HB := Aside0.mk (below_step HB.out hb); replace HR0 := Aside0.mk (Kd.C_below HR0.out hb); replace HR1 := Aside0.mk (Kd.C_below HR1.out hb); replace HR2 := Aside0.mk (Kd.C_below HR2.out hb); replace HR3 := Aside0.mk (Kd.C_below HR3.out hb); have K3 := Aside0.mk hbox; clear hbox hb; have zK3_0 : w1.cell? ⟨g3, 0, none⟩ = some (.slice A0 F.length c0) := (blk_cell K3.out 0).trans rfl; have zK3_1 : w1.cell? ⟨g3, 1, none⟩ = some (.slice A1 P.length c1) := (blk_cell K3.out 1).trans rfl)
        | (go_at_call 16; (with_reducible refine (cohousinglaw24_head.calls true _ HH.out).mono ?_); rintro e w2 ⟨rfl, hb⟩; replace HB := Aside0.mk (below_step HB.out hb); replace HR0 := Aside0.mk (Kd.C_below HR0.out hb); replace HR1 := Aside0.mk (Kd.C_below HR1.out hb); replace HR2 := Aside0.mk (Kd.C_below HR2.out hb); replace HR3 := Aside0.mk (Kd.C_below HR3.out hb); replace K3 := Aside0.mk (blk_below K3.out hb); clear zK3_0 zK3_1; have zK3_0 : w2.cell? ⟨g3, 0, none⟩ = some (.slice A0 F.length c0) := (blk_cell K3.out 0).trans rfl; have zK3_1 : w2.cell? ⟨g3, 1, none⟩ = some (.slice A1 P.length c1) := (blk_cell K3.out 1).trans rfl; clear hb)
        | (go_at_call 22; (with_reducible refine (cohousinglaw24_usable.calls ku A0 c0 F A1 c1 P A2 c2 ord true _ HR0.out HC0.out HR1.out HC1.out HR2.out HC2.out HU.out).mono ?_); rintro e w3 ⟨rfl, hb⟩; replace HB := Aside0.mk (below_step HB.out hb); replace HR0 := Aside0.mk (Kd.C_below HR0.out hb); replace HR1 := Aside0.mk (Kd.C_below HR1.out hb); replace HR2 := Aside0.mk (Kd.C_below HR2.out hb); replace HR3 := Aside0.mk (Kd.C_below HR3.out hb); replace K3 := Aside0.mk (blk_below K3.out hb); clear zK3_0 zK3_1; have zK3_0 : w3.cell? ⟨g3, 0, none⟩ = some (.slice A0 F.length c0) := (blk_cell K3.out 0).trans rfl; have zK3_1 : w3.cell? ⟨g3, 1, none⟩ = some (.slice A1 P.length c1) := (blk_cell K3.out 1).trans rfl; clear hb))
      go_ret
      exact ⟨rfl, HB.out⟩
    · have q0 : decide (oth.length < P.length) = false := decide_eq_false hw
      obtain ⟨htl, hg⟩ := gets hfine
      obtain ⟨ks, hs1⟩ := (solved_ev hi hb htl).rounds
      have HS1 := Aside0.mk hs1
      have HT := Aside0.mk (And.intro hfine hg)
      have HO := Aside0.mk hO
      have hl1 := htl
      obtain ⟨T1, hT1⟩ : ∃ T1, T1 = (finalG P ord).tos := ⟨_, rfl⟩
      have HT1 := Aside0.mk hT1
      rw [← hT1] at HS1 hl1
      have HL1 := Aside0.mk hl1
      have hfid := hF
      have HF := Aside0.mk hF
      clear hs1 hb hi hF hP htl hg hT1 hO hfine hfid hl1
      have hmm := @run_makeMap Try.prog
      go_enter Try.func6, Try.ntmps6
      go_wp2_with (first
        | ((with_reducible refine gate_dst (N := 3) rfl ?_); refine box_event ?hg (N := 3) ?hd (cs := #[.slice A0 F.length c0, .slice A1 P.length c1]) (t := 25) ?hr ?_; (case hd => rfl); (case hg => rfl); (case hr => first | (go_simp; done) | (go_simp; rfl)); intro g3 hg w1 hbox hb; have Gg3 := Aside0.mk hg; clear hg; replace HB := Aside0.mk (below_step HB.out hb); replace HR0 := Aside0.mk (Kd.C_below HR0.out hb); replace HR1 := Aside0.mk (Kd.C_below HR1.out hb); replace HR2 := Aside0.mk (Kd.C_below HR2.out hb); replace HR3 := Aside0.mk (Kd.C_below HR3.out hb); have K3 := Aside0.mk hbox; clear hbox hb; have zK3_0 : w1.cell? ⟨g3, 0, none⟩ = some (.slice A0 F.length c0) := (blk_cell K3.out 0).trans rfl; have zK3_1 : w1.cell? ⟨g3, 1, none⟩ = some (.slice A1 P.length c1) := (blk_cell K3.out 1).trans rfl)
        | (go_at_call 16; (with_reducible refine (cohousinglaw24_head.calls true _ HH.out).mono ?_); rintro e w2 ⟨rfl, hb⟩; replace HB := Aside0.mk (below_step HB.out hb); replace HR0 := Aside0.mk (Kd.C_below HR0.out hb); replace HR1 := Aside0.mk (Kd.C_below HR1.out hb); replace HR2 := Aside0.mk (Kd.C_below HR2.out hb); replace HR3 := Aside0.mk (Kd.C_below HR3.out hb); replace K3 := Aside0.mk (blk_below K3.out hb); clear zK3_0 zK3_1; have zK3_0 : w2.cell? ⟨g3, 0, none⟩ = some (.slice A0 F.length c0) := (blk_cell K3.out 0).trans rfl; have zK3_1 : w2.cell? ⟨g3, 1, none⟩ = some (.slice A1 P.length c1) := (blk_cell K3.out 1).trans rfl; clear hb)
        | (go_at_call 22; (with_reducible refine (cohousinglaw24_usable.calls ku A0 c0 F A1 c1 P A2 c2 ord true _ HR0.out HC0.out HR1.out HC1.out HR2.out HC2.out HU.out).mono ?_); rintro e w3 ⟨rfl, hb⟩; replace HB := Aside0.mk (below_step HB.out hb); replace HR0 := Aside0.mk (Kd.C_below HR0.out hb); replace HR1 := Aside0.mk (Kd.C_below HR1.out hb); replace HR2 := Aside0.mk (Kd.C_below HR2.out hb); replace HR3 := Aside0.mk (Kd.C_below HR3.out hb); replace K3 := Aside0.mk (blk_below K3.out hb); clear zK3_0 zK3_1; have zK3_0 : w3.cell? ⟨g3, 0, none⟩ = some (.slice A0 F.length c0) := (blk_cell K3.out 0).trans rfl; have zK3_1 : w3.cell? ⟨g3, 1, none⟩ = some (.slice A1 P.length c1) := (blk_cell K3.out 1).trans rfl; clear hb)
        | (go_at_call 27; (with_reducible refine (cohousinglaw24_solved.calls ks A0 c0 F A1 c1 P A2 c2 ord T1 true _ HR0.out HC0.out HR1.out HC1.out HR2.out HC2.out HS1.out).mono ?_); rintro e w4 ⟨v6, rfl, hR, hb⟩; replace HB := Aside0.mk (below_step HB.out hb); replace HR0 := Aside0.mk (Kd.C_below HR0.out hb); replace HR1 := Aside0.mk (Kd.C_below HR1.out hb); replace HR2 := Aside0.mk (Kd.C_below HR2.out hb); replace HR3 := Aside0.mk (Kd.C_below HR3.out hb); replace K3 := Aside0.mk (blk_below K3.out hb); clear zK3_0 zK3_1; have zK3_0 : w4.cell? ⟨g3, 0, none⟩ = some (.slice A0 F.length c0) := (blk_cell K3.out 0).trans rfl; have zK3_1 : w4.cell? ⟨g3, 1, none⟩ = some (.slice A1 P.length c1) := (blk_cell K3.out 1).trans rfl; clear hb; (obtain ⟨A6, c6, rfl, hc6, hC6⟩ := Kd.R_reads hR); have HR6 := Aside0.mk hC6; have HC6 := Aside0.mk hc6; clear hR hC6 hc6; have zA : (w4.alloc (.map #[] 0)).cell? ⟨g3, 1, none⟩ = some (.slice A1 P.length c1) := (blk_cell (blk_alloc K3.out _) 1).trans rfl))
      have HM0 := Aside0.mk (MapAt.made w4 Try.prog 3)
      have HK0 := Aside0.mk (below_alloc (Below.refl w4.heap.size w4) (.map #[] 0))
      clear HU hmm HH HS1 zK3_0 zK3_1 zA HR2 HC2
      go_loopg [46, 11, 12] P.length (fun gk v46 v11 v12 w' => ∃ i : Nat, v46 = .int .i64 i ∧ v11 = .bool (betE F P ord oth i) ∧ v12 = .bool (worE F P ord oth i) ∧ Aside0 (i ≤ P.length ∧ gk = P.length - i) ∧
        Aside0 (∃ m, MapAt w' Try.prog 3 w4.heap.size (intF Value.bool (tkE F oth i)) m) ∧ Aside0 (Below w4.heap.size w4 w') ∧ Aside0 (∀ p, p < i → flatE F oth p ≠ 0 → tkE F oth p (flatE F oth p) = none))
      case atStart => exact ⟨0, rfl, rfl, rfl, ⟨Nat.zero_le _, rfl⟩, ⟨0, by rw [tkE_zero, ← intF_none]; exact HM0.out⟩, HK0, ⟨fun p hp => by omega⟩⟩
      case round =>
        obtain ⟨i, rfl, rfl, rfl, HI, HM, HK, HD⟩ := hrel
        have hi := HI.out.1
        clear HM0 HK0
        replace K3 := Aside0.mk (blk_below K3.out HK.out)
        by_cases hlt : i < P.length
        · replace HR0 := Aside0.mk (Kd.C_below HR0.out HK.out)
          replace HR1 := Aside0.mk (Kd.C_below HR1.out HK.out)
          replace HR3 := Aside0.mk (Kd.C_below HR3.out HK.out)
          have HR6b := HR6
          replace HR6 := Aside0.mk (Kd.C_below HR6.out HK.out)
          obtain ⟨ad, Aw, cw, e, x0, x1, x2, lw, gw⟩ := at_T41 HR1.out (i : Int) (by omega) (by omega)
          cases e
          simp only [Int.toNat_natCast] at x0 x1 x2
          have HRW := Aside0.mk gw
          have HCW := Aside0.mk lw
          obtain ⟨kr, hr⟩ := (ranking_ev (rd_T41 P (i : Int)).f0 (rd_T41 P (i : Int)).f1 (rd_T41 P (i : Int)).f2 (by have := (HT.out.1.ok _ (rd41_mem hlt)).1; omega)).rounds
          have HRk : Aside0 (cohousingref23_Ranking.f kr (rd_T41 P (i : Int)).f0 (rd_T41 P (i : Int)).f1 (rd_T41 P (i : Int)).f2 = some (rkE P i)) := ⟨hr⟩
          have hrl : (rkE P i).length ≤ 1000 := rank_len (P := P) (p := i) (HT.out.1.ok _ (rd41_mem hlt)).1
          obtain ⟨l, hl⟩ : ∃ l, l = rkE P i := ⟨_, rfl⟩
          have HL := Aside0.mk hl
          rw [← hl] at HRk hrl
          clear hl hr lw gw
          -- the flat that the other allocation gives
          obtain ⟨y0, y1⟩ := HO.out _ (rd_mem (l := oth) (i := i) (by omega))
          obtain ⟨ado, e, u0⟩ := Kd.at_int HR3.out (i : Int) (by omega) (by omega)
          cases e
          rw [Int.toNat_natCast] at u0
          obtain ⟨y, hy⟩ : ∃ y, y = rd oth (i : Int) := ⟨_, rfl⟩
          rw [← hy] at u0 y0 y1
          have HY := Aside0.mk hy
          obtain ⟨κ, hκ⟩ : ∃ κ : Nat, (κ : Int) = y % ((F.length : Int) + 1) := ⟨(y % ((F.length : Int) + 1)).toNat, by have := Int.emod_nonneg y (show (F.length : Int) + 1 ≠ 0 by omega); omega⟩
          have hκl : κ ≤ F.length := by have := Int.emod_lt_of_pos y (show (0 : Int) < (F.length : Int) + 1 by omega); omega
          have e1 : y % ((F.length : Int) + 1) = (κ : Int) := hκ.symm
          have e2 : y.tmod ((F.length : Int) + 1) = (κ : Int) := by rw [Int.tmod_eq_emod_of_nonneg y0]; exact e1
          have e3 : (wrap64 y).tmod ((F.length : Int) + 1) = (κ : Int) := by rw [show wrap64 y = y from by unfold wrap64; omega]; exact e2
          have e4 : IntKind.i64.wrap ((F.length : Int) + 1) = (F.length : Int) + 1 := IntWalk.i64_in _ (by omega)
          have z2 : ((F.length : Int) + 1 == 0) = false := by rw [beq_eq_false_iff_ne]; omega
          obtain ⟨g, hg⟩ : ∃ g, g = flatE F oth i := ⟨_, rfl⟩
          have HG := Aside0.mk hg
          have HGF : Aside0 (g = if (κ : Int) < F.length then (rd_T53 F (κ : Int)).f0 else 0) := ⟨by rw [hg]; unfold flatE; rw [← hy, e1]⟩
          clear hg hκ hy
          have zK3_0 : wr.cell? ⟨g3, 0, none⟩ = some (.slice A0 F.length c0) := (blk_cell K3.out 0).trans rfl
          have zK3_1 : wr.cell? ⟨g3, 1, none⟩ = some (.slice (some ad) P.length c1) := (blk_cell K3.out 1).trans rfl
          have s1 : (i : Int) < (P.length : Int) := by omega
          have s2 : (i : Int) < (oth.length : Int) := by omega
          have s3 : (i : Int) < (T1.length : Int) := by have := HL1.out; omega
          have s4 : decide ((i : Int) < (P.length : Int)) = true := decide_eq_true s1
          go_upto_region 14 with (first
            | (go_at_call 23; have hb := below_alloc (Below.refl wr.heap.size wr) (.cells #[.int .i64 (rd_T41 P (i : Int)).f0, .int .i64 (rd_T41 P (i : Int)).f1, .slice Aw (rd_T41 P (i : Int)).f2.length cw] 41 (0, 0)); (with_reducible refine (cohousingref23_Ranking.calls kr _ _ Aw cw _ l _ (Kd.C_below HRW.out hb) HCW.out HRk.out).mono ?_); rintro e w7 ⟨v8, rfl, hR, hb7⟩; have HB7 := Aside0.mk (below_step hb hb7); (obtain ⟨A8, c8, rfl, hc8, hC8⟩ := Kd.R_reads hR); have HR8 := Aside0.mk hR; have HC8 := Aside0.mk hc8; clear hC8 hc8 hR hb hb7; replace K3 := Aside0.mk (blk_below K3.out HB7.out); have zK3_0 : w7.cell? ⟨g3, 0, none⟩ = some (.slice A0 F.length c0) := (blk_cell K3.out 0).trans rfl; have zK3_1 : w7.cell? ⟨g3, 1, none⟩ = some (.slice (some ad) P.length c1) := (blk_cell K3.out 1).trans rfl; (obtain ⟨ado', e, u0⟩ := Kd.at_int (Kd.C_below HR3.out HB7.out) (i : Int) (by omega) (by omega)); (have e' := Option.some.inj e); clear e; subst e'; rw [Int.toNat_natCast, ← HY.out] at u0))
          go_quiet (fail)
          go_upto_if 67 with (fail)
          clear u0
          go_cut [16] (fun v16 wc => v16 = .int .i64 g ∧ ∃ nq, wc = w7.drewN nq)
          case first =>
            by_cases hkF : κ < F.length
            · have t0 : decide (κ < F.length) = true := decide_eq_true hkF
              obtain ⟨adf, e, f0, f1⟩ := at_T53 (Kd.C_below HR0.out HB7.out) (κ : Int) (by omega) (by omega)
              cases e
              simp only [Int.toNat_natCast] at f0 f1
              have r0 : (κ : Int) < (F.length : Int) := by omega
              rw [if_pos r0] at HGF
              go_wp2
              go_meet
              case rel => exact ⟨by rw [HGF.out], _, rfl⟩
            · have t0 : decide (κ < F.length) = false := decide_eq_false hkF
              have r0 : ¬ (κ : Int) < (F.length : Int) := by omega
              rw [if_neg r0] at HGF
              go_wp2
              go_meet
              case rel => exact ⟨by rw [HGF.out], _, rfl⟩
          case rest =>
            obtain ⟨rfl, nq, rfl⟩ := hcut
            obtain ⟨m, hm⟩ := HM.out
            have HK7 := Aside0.mk (pw_below_drewN (below_step HK.out HB7.out) nq)
            have hm7 : MapAt (w7.drewN nq) Try.prog 3 w4.heap.size (intF Value.bool (tkE F oth i)) m := ((hm.kept HB7.out)).drewN nq
            have HR8q := Aside0.mk (Kd.R_drewN HR8.out nq)
            have HR6q := Aside0.mk (Kd.C_drewN (Kd.C_below HR6.out HB7.out) nq)
            have hsz := hm.lt
            have hB7 := HB7.out.size
            have hgok : okI g := by
              rw [HGF.out]
              split
              · have := HF.out _ (show rd_T53 F (κ : Int) ∈ F by rw [rd53_get (show κ < F.length by omega)]; exact List.getElem_mem _); exact this.1
              · exact ⟨by decide, by decide⟩
            have hkey := okI_key hgok
            generalize hwq : w7.drewN nq = wq at *
            have hlk : (Instr.lookup 37 (.map (some w4.heap.size)) (.int .i64 g) false).run Try.prog wq = .ok (.bool ((tkE F oth i g).getD false)) wq := by
              rw [hm7.look false keyInt Try.underlying37 (zeroB wq) hkey, intF_at, looked_false]
              cases tkE F oth i g <;> rfl
            have zK3_0' : wq.cell? ⟨g3, 0, none⟩ = some (.slice A0 F.length c0) := by rw [← hwq]; exact (blk_cell (blk_drewN K3.out nq) 0).trans rfl
            have HLl := Aside0.mk hrl
            clear zK3_0 zK3_1 hwq e1 e2 e3 e4 z2 hrl hgok
            by_cases hg0 : g = 0
            · have t1 : (g != 0) = false := by rw [hg0]; rfl
              have HG0 := Aside0.mk hg0
              clear hg0
              have hnd : g ≠ 0 → tkE F oth i g = none := fun h => absurd HG0.out h
              obtain ⟨w8, hr2, hm2, hg2, _⟩ := hm7.store keyInt Try.underlying37 hkey (.bool true)
              rw [intF_put, HG.out, tkE_put] at hm2
              have HM8 := Aside0.mk hm2
              have HK8 := Aside0.mk (HK7.out.grown hg2 HK7.out.size (by rintro k h; cases h; exact Nat.le_refl _))
              have HD8 : Aside0 (∀ p, p < i + 1 → flatE F oth p ≠ 0 → tkE F oth p (flatE F oth p) = none) := ⟨fun p hp h0 => by
                by_cases e : p = i
                · subst e; rw [← HG.out] at h0 ⊢; exact hnd h0
                · exact HD.out p (by omega) h0⟩
              have HRl := Aside0.mk (Kd.R_reads' (Kd.R_grown (Kd.R_mono (ok' := fun k => k ≠ w4.heap.size) (Kd.R_bound HR8q.out) (fun k hk => by have := hk.2.1; simp at this; omega)) hg2 (fun k hk e => hk (Option.some.inj e)))).2.2
              have HRt := Aside0.mk (Kd.C_below HR6b.out HK8.out)
              obtain ⟨x, hx⟩ : ∃ x, x = rd T1 (i : Int) := ⟨_, rfl⟩
              have HX := Aside0.mk hx
              obtain ⟨ad6, e, v0⟩ := Kd.at_int HRt.out (i : Int) (by omega) s3
              cases e
              rw [Int.toNat_natCast, ← hx] at v0
              obtain ⟨km, him⟩ := (in_ev l x (by have := HLl.out; omega)).rounds
              obtain ⟨kg, hig⟩ := (in_ev l g (by have := HLl.out; omega)).rounds
              have HIm := Aside0.mk him
              have HIg := Aside0.mk hig
              have HBet : Aside0 (betE F P ord oth (i + 1) = (betE F P ord oth i || (decide (0 ≤ inZ g 0 l) && decide (inZ g 0 l < inZ x 0 l)))) := ⟨by rw [HG.out, hx, HT1.out, HL.out]; rfl⟩
              have HWor : Aside0 (worE F P ord oth (i + 1) = (worE F P ord oth i || decide (inZ g 0 l < 0) || decide (inZ x 0 l < inZ g 0 l))) := ⟨by rw [HG.out, hx, HT1.out, HL.out]; rfl⟩
              clear him hig hx hm2 hnd hm7 hg2 hkey HR8q HR6q HR8 HR6 HM HK HK7 HB7
              generalize inZ x 0 l = mi at *
              generalize inZ g 0 l = si at *
              go_upto_region 21 with (first
                | (go_at_call 24; (with_reducible refine (cohousingref23_In.calls km A8 c8 l x mi _ HRl.out HC8.out HIm.out).mono ?_); rintro e w9 ⟨rfl, hd⟩; have hb := hd.below; replace HRl := Aside0.mk (Kd.C_below HRl.out hb); replace HM8 := Aside0.mk (HM8.out.kept hb); replace HK8 := Aside0.mk (below_step HK8.out hb); clear hb hd)
                | (go_at_call 24; (with_reducible refine (cohousingref23_In.calls kg A8 c8 l g si _ HRl.out HC8.out HIg.out).mono ?_); rintro e w10 ⟨rfl, hd⟩; have hb := hd.below; replace HM8 := Aside0.mk (HM8.out.kept hb); replace HK8 := Aside0.mk (below_step HK8.out hb); clear hb hd HRl))
              clear hlk
              obtain ⟨q1, h1⟩ : ∃ q, decide (0 ≤ si) = q := ⟨_, rfl⟩
              obtain ⟨q2, h2⟩ : ∃ q, decide (si < mi) = q := ⟨_, rfl⟩
              obtain ⟨q3, h3⟩ : ∃ q, decide (si < 0) = q := ⟨_, rfl⟩
              obtain ⟨q4, h4⟩ : ∃ q, decide (mi < si) = q := ⟨_, rfl⟩
              rw [h1, h2] at HBet
              rw [h3, h4] at HWor
              generalize betE F P ord oth i = bb at *
              generalize worE F P ord oth i = wb at *
              cases bb with
              | true =>
                cases wb with
                | true =>
                  go_wp2
                  go_roundg (P.length - (i + 1))
                  case measure => have := HI.out; omega
                  case rel => exact ⟨i + 1, by go_num, by rw [HBet.out]; first | rfl | simp, by rw [HWor.out]; first | rfl | simp, ⟨by omega, rfl⟩, ⟨_, HM8.out⟩, HK8, HD8⟩
                | false =>
                  cases q3 with
                  | true =>
                    go_wp2
                    go_roundg (P.length - (i + 1))
                    case measure => have := HI.out; omega
                    case rel => exact ⟨i + 1, by go_num, by rw [HBet.out]; first | rfl | simp, by rw [HWor.out]; first | rfl | simp, ⟨by omega, rfl⟩, ⟨_, HM8.out⟩, HK8, HD8⟩
                  | false =>
                    go_wp2
                    go_roundg (P.length - (i + 1))
                    case measure => have := HI.out; omega
                    case rel => exact ⟨i + 1, by go_num, by rw [HBet.out]; first | rfl | simp, by rw [HWor.out]; first | rfl | simp, ⟨by omega, rfl⟩, ⟨_, HM8.out⟩, HK8, HD8⟩
              | false =>
                cases q1 with
                | false =>
                  cases wb with
                  | true =>
                    go_wp2
                    go_roundg (P.length - (i + 1))
                    case measure => have := HI.out; omega
                    case rel => exact ⟨i + 1, by go_num, by rw [HBet.out]; first | rfl | simp, by rw [HWor.out]; first | rfl | simp, ⟨by omega, rfl⟩, ⟨_, HM8.out⟩, HK8, HD8⟩
                  | false =>
                    cases q3 with
                    | true =>
                      go_wp2
                      go_roundg (P.length - (i + 1))
                      case measure => have := HI.out; omega
                      case rel => exact ⟨i + 1, by go_num, by rw [HBet.out]; first | rfl | simp, by rw [HWor.out]; first | rfl | simp, ⟨by omega, rfl⟩, ⟨_, HM8.out⟩, HK8, HD8⟩
                    | false =>
                      go_wp2
                      go_roundg (P.length - (i + 1))
                      case measure => have := HI.out; omega
                      case rel => exact ⟨i + 1, by go_num, by rw [HBet.out]; first | rfl | simp, by rw [HWor.out]; first | rfl | simp, ⟨by omega, rfl⟩, ⟨_, HM8.out⟩, HK8, HD8⟩
                | true =>
                  cases wb with
                  | true =>
                    go_wp2
                    go_roundg (P.length - (i + 1))
                    case measure => have := HI.out; omega
                    case rel => exact ⟨i + 1, by go_num, by rw [HBet.out]; first | rfl | simp, by rw [HWor.out]; first | rfl | simp, ⟨by omega, rfl⟩, ⟨_, HM8.out⟩, HK8, HD8⟩
                  | false =>
                    cases q3 with
                    | true =>
                      go_wp2
                      go_roundg (P.length - (i + 1))
                      case measure => have := HI.out; omega
                      case rel => exact ⟨i + 1, by go_num, by rw [HBet.out]; first | rfl | simp, by rw [HWor.out]; first | rfl | simp, ⟨by omega, rfl⟩, ⟨_, HM8.out⟩, HK8, HD8⟩
                    | false =>
                      go_wp2
                      go_roundg (P.length - (i + 1))
                      case measure => have := HI.out; omega
                      case rel => exact ⟨i + 1, by go_num, by rw [HBet.out]; first | rfl | simp, by rw [HWor.out]; first | rfl | simp, ⟨by omega, rfl⟩, ⟨_, HM8.out⟩, HK8, HD8⟩
            · have t1 : (g != 0) = true := by simpa using hg0
              cases htk : tkE F oth i g with
              | some b =>
                have hb1 : b = true := by
                  unfold tkE at htk
                  split at htk
                  · exact (Option.some.inj htk).symm
                  · cases htk
                rw [htk, hb1] at hlk
                have hlk' : (Instr.lookup 37 (.map (some w4.heap.size)) (.int .i64 g) false).run Try.prog wq = .ok (.bool true) wq := hlk
                clear hlk
                go_wp2
                go_ret
                exact ⟨rfl, below_step HB.out HK7.out⟩
              | none =>
                rw [htk] at hlk
                have hlk' : (Instr.lookup 37 (.map (some w4.heap.size)) (.int .i64 g) false).run Try.prog wq = .ok (.bool false) wq := hlk
                clear hlk
                have hnd : g ≠ 0 → tkE F oth i g = none := fun _ => htk
                obtain ⟨w8, hr2, hm2, hg2, _⟩ := hm7.store keyInt Try.underlying37 hkey (.bool true)
                rw [intF_put, HG.out, tkE_put] at hm2
                have HM8 := Aside0.mk hm2
                have HK8 := Aside0.mk (HK7.out.grown hg2 HK7.out.size (by rintro k h; cases h; exact Nat.le_refl _))
                have HD8 : Aside0 (∀ p, p < i + 1 → flatE F oth p ≠ 0 → tkE F oth p (flatE F oth p) = none) := ⟨fun p hp h0 => by
                  by_cases e : p = i
                  · subst e; rw [← HG.out] at h0 ⊢; exact hnd h0
                  · exact HD.out p (by omega) h0⟩
                have HRl := Aside0.mk (Kd.R_reads' (Kd.R_grown (Kd.R_mono (ok' := fun k => k ≠ w4.heap.size) (Kd.R_bound HR8q.out) (fun k hk => by have := hk.2.1; simp at this; omega)) hg2 (fun k hk e => hk (Option.some.inj e)))).2.2
                have HRt := Aside0.mk (Kd.C_below HR6b.out HK8.out)
                obtain ⟨x, hx⟩ : ∃ x, x = rd T1 (i : Int) := ⟨_, rfl⟩
                have HX := Aside0.mk hx
                obtain ⟨ad6, e, v0⟩ := Kd.at_int HRt.out (i : Int) (by omega) s3
                cases e
                rw [Int.toNat_natCast, ← hx] at v0
                obtain ⟨km, him⟩ := (in_ev l x (by have := HLl.out; omega)).rounds
                obtain ⟨kg, hig⟩ := (in_ev l g (by have := HLl.out; omega)).rounds
                have HIm := Aside0.mk him
                have HIg := Aside0.mk hig
                have HBet : Aside0 (betE F P ord oth (i + 1) = (betE F P ord oth i || (decide (0 ≤ inZ g 0 l) && decide (inZ g 0 l < inZ x 0 l)))) := ⟨by rw [HG.out, hx, HT1.out, HL.out]; rfl⟩
                have HWor : Aside0 (worE F P ord oth (i + 1) = (worE F P ord oth i || decide (inZ g 0 l < 0) || decide (inZ x 0 l < inZ g 0 l))) := ⟨by rw [HG.out, hx, HT1.out, HL.out]; rfl⟩
                clear him hig hx hm2 hnd hm7 hg2 hkey HR8q HR6q HR8 HR6 HM HK HK7 HB7
                generalize inZ x 0 l = mi at *
                generalize inZ g 0 l = si at *
                go_upto_region 21 with (first
                  | (go_at_call 24; (with_reducible refine (cohousingref23_In.calls km A8 c8 l x mi _ HRl.out HC8.out HIm.out).mono ?_); rintro e w9 ⟨rfl, hd⟩; have hb := hd.below; replace HRl := Aside0.mk (Kd.C_below HRl.out hb); replace HM8 := Aside0.mk (HM8.out.kept hb); replace HK8 := Aside0.mk (below_step HK8.out hb); clear hb hd)
                  | (go_at_call 24; (with_reducible refine (cohousingref23_In.calls kg A8 c8 l g si _ HRl.out HC8.out HIg.out).mono ?_); rintro e w10 ⟨rfl, hd⟩; have hb := hd.below; replace HM8 := Aside0.mk (HM8.out.kept hb); replace HK8 := Aside0.mk (below_step HK8.out hb); clear hb hd HRl))
                clear hlk'
                obtain ⟨q1, h1⟩ : ∃ q, decide (0 ≤ si) = q := ⟨_, rfl⟩
                obtain ⟨q2, h2⟩ : ∃ q, decide (si < mi) = q := ⟨_, rfl⟩
                obtain ⟨q3, h3⟩ : ∃ q, decide (si < 0) = q := ⟨_, rfl⟩
                obtain ⟨q4, h4⟩ : ∃ q, decide (mi < si) = q := ⟨_, rfl⟩
                rw [h1, h2] at HBet
                rw [h3, h4] at HWor
                generalize betE F P ord oth i = bb at *
                generalize worE F P ord oth i = wb at *
                cases bb with
                | true =>
                  cases wb with
                  | true =>
                    go_wp2
                    go_roundg (P.length - (i + 1))
                    case measure => have := HI.out; omega
                    case rel => exact ⟨i + 1, by go_num, by rw [HBet.out]; first | rfl | simp, by rw [HWor.out]; first | rfl | simp, ⟨by omega, rfl⟩, ⟨_, HM8.out⟩, HK8, HD8⟩
                  | false =>
                    cases q3 with
                    | true =>
                      go_wp2
                      go_roundg (P.length - (i + 1))
                      case measure => have := HI.out; omega
                      case rel => exact ⟨i + 1, by go_num, by rw [HBet.out]; first | rfl | simp, by rw [HWor.out]; first | rfl | simp, ⟨by omega, rfl⟩, ⟨_, HM8.out⟩, HK8, HD8⟩
                    | false =>
                      go_wp2
                      go_roundg (P.length - (i + 1))
                      case measure => have := HI.out; omega
                      case rel => exact ⟨i + 1, by go_num, by rw [HBet.out]; first | rfl | simp, by rw [HWor.out]; first | rfl | simp, ⟨by omega, rfl⟩, ⟨_, HM8.out⟩, HK8, HD8⟩
                | false =>
                  cases q1 with
                  | false =>
                    cases wb with
                    | true =>
                      go_wp2
                      go_roundg (P.length - (i + 1))
                      case measure => have := HI.out; omega
                      case rel => exact ⟨i + 1, by go_num, by rw [HBet.out]; first | rfl | simp, by rw [HWor.out]; first | rfl | simp, ⟨by omega, rfl⟩, ⟨_, HM8.out⟩, HK8, HD8⟩
                    | false =>
                      cases q3 with
                      | true =>
                        go_wp2
                        go_roundg (P.length - (i + 1))
                        case measure => have := HI.out; omega
                        case rel => exact ⟨i + 1, by go_num, by rw [HBet.out]; first | rfl | simp, by rw [HWor.out]; first | rfl | simp, ⟨by omega, rfl⟩, ⟨_, HM8.out⟩, HK8, HD8⟩
                      | false =>
                        go_wp2
                        go_roundg (P.length - (i + 1))
                        case measure => have := HI.out; omega
                        case rel => exact ⟨i + 1, by go_num, by rw [HBet.out]; first | rfl | simp, by rw [HWor.out]; first | rfl | simp, ⟨by omega, rfl⟩, ⟨_, HM8.out⟩, HK8, HD8⟩
                  | true =>
                    cases wb with
                    | true =>
                      go_wp2
                      go_roundg (P.length - (i + 1))
                      case measure => have := HI.out; omega
                      case rel => exact ⟨i + 1, by go_num, by rw [HBet.out]; first | rfl | simp, by rw [HWor.out]; first | rfl | simp, ⟨by omega, rfl⟩, ⟨_, HM8.out⟩, HK8, HD8⟩
                    | false =>
                      cases q3 with
                      | true =>
                        go_wp2
                        go_roundg (P.length - (i + 1))
                        case measure => have := HI.out; omega
                        case rel => exact ⟨i + 1, by go_num, by rw [HBet.out]; first | rfl | simp, by rw [HWor.out]; first | rfl | simp, ⟨by omega, rfl⟩, ⟨_, HM8.out⟩, HK8, HD8⟩
                      | false =>
                        go_wp2
                        go_roundg (P.length - (i + 1))
                        case measure => have := HI.out; omega
                        case rel => exact ⟨i + 1, by go_num, by rw [HBet.out]; first | rfl | simp, by rw [HWor.out]; first | rfl | simp, ⟨by omega, rfl⟩, ⟨_, HM8.out⟩, HK8, HD8⟩
        · obtain rfl : i = P.length := by omega
          have hwb := fun (h : worE F P ord oth P.length = false) => eff_law (F := F) (oth := oth) HT.out.1 HD.out h
          clear HM HD
          have hB := below_step HB.out HK.out
          cases hw2 : worE F P ord oth P.length with
          | true =>
            clear hwb
            go_wp2
            go_ret
            exact ⟨rfl, hB⟩
          | false =>
            rw [hwb hw2]
            clear hwb
            go_wp2
            go_ret
            exact ⟨rfl, hB⟩
end Go.Proofs.Ytjgnkhfgmpaljaa.P
namespace Go.Proofs.Ytjgnkhfgmpaljaa.P
open Go.RowKit Go.Proofs.YtjgnkhfgmpaljaaW.PrintWords Go.Proofs.YtjgnkhfgmpaljaaW.PrintLast Go.Proofs.YtjgnkhfgmpaljaaW.PrintMore Go.Proofs.Ytjgnkhfgmpaljaa.M
set_option linter.unusedVariables false
set_option linter.unusedSimpArgs false
set_option maxHeartbeats 8000000 in
set_option maxRecDepth 100000 in
theorem cohousinglaw24_TradeAllocates.calls (A0 : Option Addr) (c0 : Nat) (F : List S53) (A1 : Option Addr) (c1 : Nat) (P : List S41) (A2 : Option Addr) (c2 : Nat) (ord : List Int) (w : World)
    (hr0 : Kd.C k53 w A0 F.length F) (hc0 : F.length ≤ c0) (hr1 : Kd.C k41 w A1 P.length P) (hc1 : P.length ≤ c1) (hr2 : Kd.C (Kd.int .i64) w A2 ord.length ord) (hc2 : ord.length ≤ c2)
    (wm : wf25 ⟨F, P⟩) (wo : wfL ord)  :
    Calls Try.prog 4 #[.agg #[.slice A0 F.length c0, .slice A1 P.length c1], .slice A2 ord.length c2] w fun e w' => e = .returned (.bool true) ∧ Below w.heap.size w w' := by
  have hF : ∀ x ∈ F, okI x.f0 ∧ okI x.f1 := fun x hx => ⟨wfI_okI (wm.1.2 x hx).1, wfI_okI (wm.1.2 x hx).2⟩
  have hP : ∀ p ∈ P, okI p.f1 ∧ ∀ f ∈ p.f2, okI f := fun p hp => ⟨wfI_okI (wm.2.2 p hp).2.1, fun f hf => wfI_okI ((wm.2.2 p hp).2.2.2 f hf)⟩
  have hmP : P.length ≤ 9223372036854775807 := by have := wm.2.1; simp only [maxLen] at this; exact this
  obtain ⟨ku, hu⟩ := (usable_ev F P ord).rounds
  have HU := Aside0.mk hu
  have HH : Aside0 (cohousinglaw24_head.f = some true) := ⟨rfl⟩
  have hu25 := Try.underlying25
  have hu41 := Try.underlying41
  have HR0 := Aside0.mk hr0
  have HR1 := Aside0.mk hr1
  have HR2 := Aside0.mk hr2
  have HC0 := Aside0.mk hc0
  have HC1 := Aside0.mk hc1
  have HC2 := Aside0.mk hc2
  have HB := Aside0.mk (Below.refl w.heap.size w)
  clear hr0 hr1 hr2 hc0 hc1 hc2 wm wo hu
  cases hu : useR F P ord with
  | false =>
    rw [hu] at HU
    clear hu hF hP
    go_enter Try.func4, Try.ntmps4
    go_wp2_with (first
      | ((with_reducible refine gate_dst (N := 2) rfl ?_); refine box_event ?hg (N := 2) ?hd (cs := #[.slice A0 F.length c0, .slice A1 P.length c1]) (t := 25) ?hr ?_; (case hd => rfl); (case hg => rfl); (case hr => first | (go_simp; done) | (go_simp; rfl)); intro g2 hg w1 hbox hb; have Gg2 := Aside0.mk hg; clear hg; replace HB := Aside0.mk (below_step HB.out hb); replace HR0 := Aside0.mk (Kd.C_below HR0.out hb); replace HR1 := Aside0.mk (Kd.C_below HR1.out hb); replace HR2 := Aside0.mk (Kd.C_below HR2.out hb); have K2 := Aside0.mk hbox; clear hbox hb; have zK2_0 : w1.cell? ⟨g2, 0, none⟩ = some (.slice A0 F.length c0) := (blk_cell K2.out 0).trans rfl; have zK2_1 : w1.cell? ⟨g2, 1, none⟩ = some (.slice A1 P.length c1) := (blk_cell K2.out 1).trans rfl)
      | (go_at_call 16; (with_reducible refine (cohousinglaw24_head.calls true _ HH.out).mono ?_); rintro e w2 ⟨rfl, hb⟩; replace HB := Aside0.mk (below_step HB.out hb); replace HR0 := Aside0.mk (Kd.C_below HR0.out hb); replace HR1 := Aside0.mk (Kd.C_below HR1.out hb); replace HR2 := Aside0.mk (Kd.C_below HR2.out hb); replace K2 := Aside0.mk (blk_below K2.out hb); clear zK2_0 zK2_1; have zK2_0 : w2.cell? ⟨g2, 0, none⟩ = some (.slice A0 F.length c0) := (blk_cell K2.out 0).trans rfl; have zK2_1 : w2.cell? ⟨g2, 1, none⟩ = some (.slice A1 P.length c1) := (blk_cell K2.out 1).trans rfl; clear hb)
      | (go_at_call 22; (with_reducible refine (cohousinglaw24_usable.calls ku A0 c0 F A1 c1 P A2 c2 ord false _ HR0.out HC0.out HR1.out HC1.out HR2.out HC2.out HU.out).mono ?_); rintro e w3 ⟨rfl, hb⟩; replace HB := Aside0.mk (below_step HB.out hb); replace HR0 := Aside0.mk (Kd.C_below HR0.out hb); replace HR1 := Aside0.mk (Kd.C_below HR1.out hb); replace HR2 := Aside0.mk (Kd.C_below HR2.out hb); replace K2 := Aside0.mk (blk_below K2.out hb); clear zK2_0 zK2_1; have zK2_0 : w3.cell? ⟨g2, 0, none⟩ = some (.slice A0 F.length c0) := (blk_cell K2.out 0).trans rfl; have zK2_1 : w3.cell? ⟨g2, 1, none⟩ = some (.slice A1 P.length c1) := (blk_cell K2.out 1).trans rfl; clear hb))
    go_ret
    exact ⟨rfl, HB.out⟩
  | true =>
    rw [hu] at HU
    obtain ⟨hb, hi, hfine⟩ := use_fine hu hF hP
    have hP20 : P.length ≤ 1000 := by have := hfine.n; omega
    have hF20 : F.length ≤ 20 := by unfold useR at hu; rw [Bool.and_eq_true] at hu; exact (fewR_iff.1 hu.1).1
    clear hu
    obtain ⟨htl, hg⟩ := gets hfine
    obtain ⟨Mv, hMv⟩ : ∃ Mv, Mv = outM P (finalG P ord).tos P.length := ⟨_, rfl⟩
    obtain ⟨Rg, hRg⟩ : ∃ Rg, Rg = (finalG P ord).rg := ⟨_, rfl⟩
    have HS : Aside0 (trade_Solve.f F P ord = some (Mv, Rg, 0)) := ⟨by unfold trade_Solve.f solveG; rw [if_pos hi, if_pos hb, hMv, hRg]⟩
    have hMl : Mv.length = P.length := by rw [hMv]; exact outM_len _ _ _
    have HMv : Aside0 (∀ i : Nat, i < P.length → rd_T39 Mv (i : Int) = outAt P (finalG P ord).tos i) := ⟨fun i hi => by rw [hMv, outM_get P _ _ (Nat.le_refl _) i hi, if_pos hi]⟩
    have HMl := Aside0.mk hMl
    have HT := Aside0.mk (And.intro hfine hb)
    have HRg := Aside0.mk hRg
    have n0 : ((Mv.length : Int) != (P.length : Int)) = false := by rw [hMl]; simp
    have n1 : (Mv.length != P.length) = false := by rw [hMl]; simp
    have n2 : decide (Mv.length = P.length) = true := decide_eq_true hMl
    have hmm := @run_makeMap Try.prog
    clear hMv hRg hMl hi hb hF hP htl hg hfine
    go_enter Try.func4, Try.ntmps4
    go_wp2_with (first
      | ((with_reducible refine gate_dst (N := 2) rfl ?_); refine box_event ?hg (N := 2) ?hd (cs := #[.slice A0 F.length c0, .slice A1 P.length c1]) (t := 25) ?hr ?_; (case hd => rfl); (case hg => rfl); (case hr => first | (go_simp; done) | (go_simp; rfl)); intro g2 hg w1 hbox hb; have Gg2 := Aside0.mk hg; clear hg; replace HB := Aside0.mk (below_step HB.out hb); replace HR0 := Aside0.mk (Kd.C_below HR0.out hb); replace HR1 := Aside0.mk (Kd.C_below HR1.out hb); replace HR2 := Aside0.mk (Kd.C_below HR2.out hb); have K2 := Aside0.mk hbox; clear hbox hb; have zK2_0 : w1.cell? ⟨g2, 0, none⟩ = some (.slice A0 F.length c0) := (blk_cell K2.out 0).trans rfl; have zK2_1 : w1.cell? ⟨g2, 1, none⟩ = some (.slice A1 P.length c1) := (blk_cell K2.out 1).trans rfl)
      | (go_at_call 16; (with_reducible refine (cohousinglaw24_head.calls true _ HH.out).mono ?_); rintro e w2 ⟨rfl, hb⟩; replace HB := Aside0.mk (below_step HB.out hb); replace HR0 := Aside0.mk (Kd.C_below HR0.out hb); replace HR1 := Aside0.mk (Kd.C_below HR1.out hb); replace HR2 := Aside0.mk (Kd.C_below HR2.out hb); replace K2 := Aside0.mk (blk_below K2.out hb); clear zK2_0 zK2_1; have zK2_0 : w2.cell? ⟨g2, 0, none⟩ = some (.slice A0 F.length c0) := (blk_cell K2.out 0).trans rfl; have zK2_1 : w2.cell? ⟨g2, 1, none⟩ = some (.slice A1 P.length c1) := (blk_cell K2.out 1).trans rfl; clear hb)
      | (go_at_call 22; (with_reducible refine (cohousinglaw24_usable.calls ku A0 c0 F A1 c1 P A2 c2 ord true _ HR0.out HC0.out HR1.out HC1.out HR2.out HC2.out HU.out).mono ?_); rintro e w3 ⟨rfl, hb⟩; replace HB := Aside0.mk (below_step HB.out hb); replace HR0 := Aside0.mk (Kd.C_below HR0.out hb); replace HR1 := Aside0.mk (Kd.C_below HR1.out hb); replace HR2 := Aside0.mk (Kd.C_below HR2.out hb); replace K2 := Aside0.mk (blk_below K2.out hb); clear zK2_0 zK2_1; have zK2_0 : w3.cell? ⟨g2, 0, none⟩ = some (.slice A0 F.length c0) := (blk_cell K2.out 0).trans rfl; have zK2_1 : w3.cell? ⟨g2, 1, none⟩ = some (.slice A1 P.length c1) := (blk_cell K2.out 1).trans rfl; clear hb)
      | (go_at_call 18; (with_reducible refine (trade_Solve.calls A0 c0 F A1 c1 P A2 c2 ord Mv Rg 0 _ HR0.out HC0.out HR1.out HC1.out HR2.out HC2.out HS.out).mono ?_); rintro e w4 ⟨v6, v7, rfl, hR, hS, hb⟩; replace HB := Aside0.mk (below_step HB.out hb); replace HR0 := Aside0.mk (Kd.C_below HR0.out hb); replace HR1 := Aside0.mk (Kd.C_below HR1.out hb); replace HR2 := Aside0.mk (Kd.C_below HR2.out hb); replace K2 := Aside0.mk (blk_below K2.out hb); clear zK2_0 zK2_1; have zK2_0 : w4.cell? ⟨g2, 0, none⟩ = some (.slice A0 F.length c0) := (blk_cell K2.out 0).trans rfl; have zK2_1 : w4.cell? ⟨g2, 1, none⟩ = some (.slice A1 P.length c1) := (blk_cell K2.out 1).trans rfl; clear hb; (obtain ⟨A6, c6, rfl, hc6, hC6⟩ := Kd.R_reads hR); have HR6 := Aside0.mk hC6; have HC6 := Aside0.mk hc6; clear hR hC6 hc6; (obtain ⟨A7, c7, rfl, _⟩ := Kd.R_reads (Kd.S_R hS)); clear hS; have zA : (w4.alloc (.map #[] 0)).cell? ⟨g2, 1, none⟩ = some (.slice A1 P.length c1) := (blk_cell (blk_alloc K2.out _) 1).trans rfl))
    have HM0 := Aside0.mk (MapAt.made w4 Try.prog 3)
    have HK0 := Aside0.mk (below_alloc (Below.refl w4.heap.size w4) (.map #[] 0))
    clear HU hmm HH HS zK2_0 zK2_1 HR2 HC2 zA n0 n1 n2
    go_loopg [41] Mv.length (fun gk v41 w' => ∃ i : Nat, v41 = .int .i64 i ∧ Aside0 (i ≤ Mv.length ∧ gk = Mv.length - i) ∧
      Aside0 (∃ m, MapAt w' Try.prog 3 w4.heap.size (intF Value.bool (tkN (fun q => rd (finalG P ord).tos (q : Int)) i)) m) ∧ Aside0 (Below w4.heap.size w4 w'))
    case atStart => exact ⟨0, rfl, ⟨Nat.zero_le _, rfl⟩, ⟨0, by rw [tkN_zero, ← intF_none]; exact HM0.out⟩, HK0⟩
    case round =>
      obtain ⟨i, rfl, HI, HM, HK⟩ := hrel
      have hi := HI.out.1
      clear HM0 HK0
      replace K2 := Aside0.mk (blk_below K2.out HK.out)
      by_cases hlt : i < Mv.length
      · have hlp : i < P.length := by have := HMl.out; omega
        replace HR0 := Aside0.mk (Kd.C_below HR0.out HK.out)
        replace HR1 := Aside0.mk (Kd.C_below HR1.out HK.out)
        replace HR6 := Aside0.mk (Kd.C_below HR6.out HK.out)
        obtain ⟨ad, Aw, cw, e, x0, x1, x2, lw, gw⟩ := at_T41 HR1.out (i : Int) (by omega) (by omega)
        cases e
        obtain ⟨adm, e, y0, y1, y2⟩ := at_T39 HR6.out (i : Int) (by omega) (by omega)
        cases e
        rw [HMv.out i hlp] at y0 y1 y2
        simp only [Int.toNat_natCast, outAt] at x0 x1 x2 y0 y1 y2
        obtain ⟨q1, q2, q3⟩ := alloc_at HT.out.1 HT.out.2 hlp
        obtain ⟨_, hok2, hok3⟩ := HT.out.1.ok _ (rd41_mem hlp)
        have hwl := (HT.out.1.ok _ (rd41_mem hlp)).1
        obtain ⟨kr, hr⟩ := (ranking_ev (rd_T41 P (i : Int)).f0 (rd_T41 P (i : Int)).f1 (rd_T41 P (i : Int)).f2 (by omega)).rounds
        have HRk : Aside0 (cohousingref23_Ranking.f kr (rd_T41 P (i : Int)).f0 (rd_T41 P (i : Int)).f1 (rd_T41 P (i : Int)).f2 = some (rkE P i)) := ⟨hr⟩
        have hrl : (rkE P i).length ≤ 1000 := rank_len (P := P) (p := i) hwl
        have HW := Aside0.mk gw
        have HCW := Aside0.mk lw
        have hxk : okI (rd (finalG P ord).tos (i : Int)) := by
          have hm : rd (finalG P ord).tos (i : Int) ∈ rkE P i := by
            refine Decidable.byContradiction fun hn => ?_
            have := (inZ_neg _ _ 0).2 hn
            omega
          unfold rkE rankL at hm
          rcases List.mem_append.1 hm with hm | hm
          · exact hok3 _ ((List.takeWhile_sublist _).subset hm)
          · rw [List.mem_singleton] at hm; rw [hm]; exact hok2
        have hkey := Aside0.mk (okI_key hxk)
        obtain ⟨ki1, hi1⟩ := (in_ev (rkE P i) (rd (finalG P ord).tos (i : Int)) (by omega)).rounds
        obtain ⟨ki2, hi2⟩ := (in_ev (rkE P i) (ownP P i) (by omega)).rounds
        obtain ⟨kh, hh⟩ := (has_ev F (rd (finalG P ord).tos (i : Int)) (by omega)).rounds
        have HI1 := Aside0.mk hi1
        have HI2 : Aside0 (cohousingref23_In.f ki2 (rkE P i) (rd_T41 P (i : Int)).f1 = some (inZ (ownP P i) 0 (rkE P i))) := ⟨hi2⟩
        have HPut := Aside0.mk (tkN_put (fun q => rd (finalG P ord).tos (q : Int)) i)
        have HQ3 := Aside0.mk q3
        have HH3 := Aside0.mk hh
        have d1 : decide (inZ (rd (finalG P ord).tos (i : Int)) 0 (rkE P i) < 0) = false := decide_eq_false (by omega)
        have d2 : decide (inZ (ownP P i) 0 (rkE P i) < inZ (rd (finalG P ord).tos (i : Int)) 0 (rkE P i)) = false := decide_eq_false (by omega)
        clear hr hi1 hi2 hh q1 q2 q3 hok2 hok3 hwl gw lw hxk
        generalize inZ (rd (finalG P ord).tos (i : Int)) 0 (rkE P i) = m1 at *
        generalize inZ (ownP P i) 0 (rkE P i) = m2 at *
        generalize hl : rkE P i = l at *
        clear hl
        obtain ⟨x, hx⟩ : ∃ x, x = rd (finalG P ord).tos (i : Int) := ⟨_, rfl⟩
        have HX := Aside0.mk hx
        rw [← hx] at y2 HI1 HQ3 HH3 hkey
        obtain ⟨id, hid⟩ : ∃ x, x = (rd_T41 P (i : Int)).f0 := ⟨_, rfl⟩
        obtain ⟨ow, how⟩ : ∃ x, x = (rd_T41 P (i : Int)).f1 := ⟨_, rfl⟩
        obtain ⟨ws, hws⟩ : ∃ x, x = (rd_T41 P (i : Int)).f2 := ⟨_, rfl⟩
        rw [← hid] at x0 y0 HRk
        rw [← how] at x1 y1 HI2 HRk
        rw [← hws] at x2 HRk HW HCW
        clear hx hid how hws
        have b1 : (id != id) = false := by simp
        have b2 : (ow != ow) = false := by simp
        have zK2_0 : wr.cell? ⟨g2, 0, none⟩ = some (.slice A0 F.length c0) := (blk_cell K2.out 0).trans rfl
        have zK2_1 : wr.cell? ⟨g2, 1, none⟩ = some (.slice (some ad) P.length c1) := (blk_cell K2.out 1).trans rfl
        have z1 : (wr.alloc (.cells #[.int .i64 id, .int .i64 ow, .int .i64 x] 39 (0, 0))).cell? ⟨g2, 1, none⟩ = some (.slice (some ad) P.length c1) := (blk_cell (blk_alloc K2.out _) 1).trans rfl
        replace x0 := ((below_alloc (Below.refl wr.heap.size wr) (.cells #[.int .i64 id, .int .i64 ow, .int .i64 x] 39 (0, 0))).cell (World.block_lt_of_cell? wr _ x0)).trans x0
        replace x1 := ((below_alloc (Below.refl wr.heap.size wr) (.cells #[.int .i64 id, .int .i64 ow, .int .i64 x] 39 (0, 0))).cell (World.block_lt_of_cell? wr _ x1)).trans x1
        replace x2 := ((below_alloc (Below.refl wr.heap.size wr) (.cells #[.int .i64 id, .int .i64 ow, .int .i64 x] 39 (0, 0))).cell (World.block_lt_of_cell? wr _ x2)).trans x2
        have s1 : (i : Int) < (P.length : Int) := by omega
        have s2 : (i : Int) < (Mv.length : Int) := by omega
        have hTx : Aside0 (tkN (fun q => rd (finalG P ord).tos (q : Int)) (i + 1) = fun j => if j = x then some true else tkN (fun q => rd (finalG P ord).tos (q : Int)) i j) := ⟨by rw [HX.out]; exact HPut.out.symm⟩
        clear HPut HMv
        generalize htk1 : tkN (fun q => rd (finalG P ord).tos (q : Int)) (i + 1) = tk1 at *
        have HTk1 := Aside0.mk htk1
        clear htk1
        generalize tkN (fun q => rd (finalG P ord).tos (q : Int)) i = tk0 at *
        by_cases hx0 : x = 0
        · have t1 : (x != 0) = false := by rw [hx0]; rfl
          clear hx0 HQ3 HH3
          go_wp2_with (first
            | (go_at_call 23; have hb1 := below_alloc (below_alloc (Below.refl wr.heap.size wr) (.cells #[.int .i64 id, .int .i64 ow, .int .i64 x] 39 (0, 0))) (.cells #[.int .i64 id, .int .i64 ow, .slice Aw ws.length cw] 41 (0, 0)); (with_reducible refine (cohousingref23_Ranking.calls kr id ow Aw cw ws l _ (Kd.C_below HW.out hb1) HCW.out HRk.out).mono ?_); rintro e w7 ⟨v8, rfl, hR, hb⟩; have KX := Aside0.mk (blk_alloc (blk_new wr (.cells #[.int .i64 id, .int .i64 ow, .int .i64 x] 39 (0, 0))) (.cells #[.int .i64 id, .int .i64 ow, .slice Aw ws.length cw] 41 (0, 0))); have KY : Aside0 ((wr.alloc (.cells #[.int .i64 id, .int .i64 ow, .int .i64 x] 39 (0, 0)) |>.alloc (.cells #[.int .i64 id, .int .i64 ow, .slice Aw ws.length cw] 41 (0, 0))).heap[wr.heap.size + 1]? = some (.cells #[.int .i64 id, .int .i64 ow, .slice Aw ws.length cw] 41 (0, 0))) := ⟨by have h := blk_new (wr.alloc (.cells #[.int .i64 id, .int .i64 ow, .int .i64 x] 39 (0, 0))) (.cells #[.int .i64 id, .int .i64 ow, .slice Aw ws.length cw] 41 (0, 0)); simpa using h⟩; have HMa : Aside0 (∃ m, MapAt (wr.alloc (.cells #[.int .i64 id, .int .i64 ow, .int .i64 x] 39 (0, 0)) |>.alloc (.cells #[.int .i64 id, .int .i64 ow, .slice Aw ws.length cw] 41 (0, 0))) Try.prog 3 w4.heap.size (intF Value.bool tk0) m) := ⟨HM.out.elim fun m hm => ⟨m, (hm.alloc _).alloc _⟩⟩; replace HM := HMa; clear HMa; replace K2 := Aside0.mk (blk_below K2.out (below_step hb1 hb)); replace HR0 := Aside0.mk (Kd.C_below HR0.out (below_step hb1 hb)); replace HK := Aside0.mk (below_step HK.out (below_step hb1 hb)); have KX := Aside0.mk (blk_below KX.out hb); have KY := Aside0.mk (blk_below KY.out hb); have HM := Aside0.mk (HM.out.elim fun m hm => Exists.intro m (hm.kept hb) : ∃ m, MapAt w7 Try.prog 3 w4.heap.size (intF Value.bool tk0) m); have zx0 : w7.cell? ⟨wr.heap.size, 0, none⟩ = some (.int .i64 id) := (blk_cell KX.out 0).trans rfl; have zx1 : w7.cell? ⟨wr.heap.size, 1, none⟩ = some (.int .i64 ow) := (blk_cell KX.out 1).trans rfl; have zx2 : w7.cell? ⟨wr.heap.size, 2, none⟩ = some (.int .i64 x) := (blk_cell KX.out 2).trans rfl; have zy0 : w7.cell? ⟨wr.heap.size + 1, 0, none⟩ = some (.int .i64 id) := (blk_cell KY.out 0).trans rfl; have zy1 : w7.cell? ⟨wr.heap.size + 1, 1, none⟩ = some (.int .i64 ow) := (blk_cell KY.out 1).trans rfl; have zK2_0 : w7.cell? ⟨g2, 0, none⟩ = some (.slice A0 F.length c0) := (blk_cell K2.out 0).trans rfl; (obtain ⟨A8, c8, rfl, hc8, hC8⟩ := Kd.R_reads hR); have HR8 := Aside0.mk hC8; have HC8 := Aside0.mk hc8; clear hR hC8 hc8 hb hb1)
            | (go_at_call 24; (with_reducible refine (cohousingref23_In.calls ki1 A8 c8 l x m1 _ HR8.out HC8.out HI1.out).mono ?_); rintro e w8 ⟨rfl, hd⟩; have hb := hd.below; clear hd; replace K2 := Aside0.mk (blk_below K2.out hb); replace HR0 := Aside0.mk (Kd.C_below HR0.out hb); replace HR8 := Aside0.mk (Kd.C_below HR8.out hb); replace HK := Aside0.mk (below_step HK.out hb); have KX := Aside0.mk (blk_below KX.out hb); have KY := Aside0.mk (blk_below KY.out hb); have HM := Aside0.mk (HM.out.elim fun m hm => Exists.intro m (hm.kept hb) : ∃ m, MapAt w8 Try.prog 3 w4.heap.size (intF Value.bool tk0) m); have zx0 : w8.cell? ⟨wr.heap.size, 0, none⟩ = some (.int .i64 id) := (blk_cell KX.out 0).trans rfl; have zx1 : w8.cell? ⟨wr.heap.size, 1, none⟩ = some (.int .i64 ow) := (blk_cell KX.out 1).trans rfl; have zx2 : w8.cell? ⟨wr.heap.size, 2, none⟩ = some (.int .i64 x) := (blk_cell KX.out 2).trans rfl; have zy0 : w8.cell? ⟨wr.heap.size + 1, 0, none⟩ = some (.int .i64 id) := (blk_cell KY.out 0).trans rfl; have zy1 : w8.cell? ⟨wr.heap.size + 1, 1, none⟩ = some (.int .i64 ow) := (blk_cell KY.out 1).trans rfl; have zK2_0 : w8.cell? ⟨g2, 0, none⟩ = some (.slice A0 F.length c0) := (blk_cell K2.out 0).trans rfl; clear hb; have tok := True.intro)
            | (go_at_call 24; (with_reducible refine (cohousingref23_In.calls ki2 A8 c8 l ow m2 _ HR8.out HC8.out HI2.out).mono ?_); rintro e w9 ⟨rfl, hd⟩; have hb := hd.below; clear hd; replace K2 := Aside0.mk (blk_below K2.out hb); replace HR0 := Aside0.mk (Kd.C_below HR0.out hb); replace HR8 := Aside0.mk (Kd.C_below HR8.out hb); replace HK := Aside0.mk (below_step HK.out hb); have KX := Aside0.mk (blk_below KX.out hb); have KY := Aside0.mk (blk_below KY.out hb); have HM := Aside0.mk (HM.out.elim fun m hm => Exists.intro m (hm.kept hb) : ∃ m, MapAt w9 Try.prog 3 w4.heap.size (intF Value.bool tk0) m); have zx0 : w9.cell? ⟨wr.heap.size, 0, none⟩ = some (.int .i64 id) := (blk_cell KX.out 0).trans rfl; have zx1 : w9.cell? ⟨wr.heap.size, 1, none⟩ = some (.int .i64 ow) := (blk_cell KX.out 1).trans rfl; have zx2 : w9.cell? ⟨wr.heap.size, 2, none⟩ = some (.int .i64 x) := (blk_cell KX.out 2).trans rfl; have zy0 : w9.cell? ⟨wr.heap.size + 1, 0, none⟩ = some (.int .i64 id) := (blk_cell KY.out 0).trans rfl; have zy1 : w9.cell? ⟨wr.heap.size + 1, 1, none⟩ = some (.int .i64 ow) := (blk_cell KY.out 1).trans rfl; have zK2_0 : w9.cell? ⟨g2, 0, none⟩ = some (.slice A0 F.length c0) := (blk_cell K2.out 0).trans rfl; clear hb; (obtain ⟨m9, hm9⟩ := HM.out); (obtain ⟨w11, hr2, hm2, hg2, _⟩ := hm9.store keyInt Try.underlying37 hkey.out (.bool true)); rw [intF_put, ← hTx.out] at hm2; have HM2 := Aside0.mk hm2; have HK2 := Aside0.mk (HK.out.grown hg2 HK.out.size (by rintro k h; cases h; exact Nat.le_refl _)); clear hm2 hg2 hm9))
          go_roundg (Mv.length - (i + 1))
          case measure => have := HI.out; omega
          case rel => exact ⟨i + 1, by go_num, ⟨by omega, rfl⟩, ⟨by rw [HTk1.out]; exact ⟨_, HM2.out⟩⟩, HK2⟩
        · have t1 : (x != 0) = true := by simpa using hx0
          obtain ⟨htk, hhas⟩ := HQ3.out hx0
          have HTK := Aside0.mk htk
          have HHas : Aside0 (cohousingref23_Has.f kh F x = some true) := ⟨by rw [HH3.out, hhas]⟩
          clear hx0 HQ3 HH3 htk hhas
          go_wp2_with (first
            | (go_at_call 23; have hb1 := below_alloc (below_alloc (Below.refl wr.heap.size wr) (.cells #[.int .i64 id, .int .i64 ow, .int .i64 x] 39 (0, 0))) (.cells #[.int .i64 id, .int .i64 ow, .slice Aw ws.length cw] 41 (0, 0)); (with_reducible refine (cohousingref23_Ranking.calls kr id ow Aw cw ws l _ (Kd.C_below HW.out hb1) HCW.out HRk.out).mono ?_); rintro e w7 ⟨v8, rfl, hR, hb⟩; have KX := Aside0.mk (blk_alloc (blk_new wr (.cells #[.int .i64 id, .int .i64 ow, .int .i64 x] 39 (0, 0))) (.cells #[.int .i64 id, .int .i64 ow, .slice Aw ws.length cw] 41 (0, 0))); have KY : Aside0 ((wr.alloc (.cells #[.int .i64 id, .int .i64 ow, .int .i64 x] 39 (0, 0)) |>.alloc (.cells #[.int .i64 id, .int .i64 ow, .slice Aw ws.length cw] 41 (0, 0))).heap[wr.heap.size + 1]? = some (.cells #[.int .i64 id, .int .i64 ow, .slice Aw ws.length cw] 41 (0, 0))) := ⟨by have h := blk_new (wr.alloc (.cells #[.int .i64 id, .int .i64 ow, .int .i64 x] 39 (0, 0))) (.cells #[.int .i64 id, .int .i64 ow, .slice Aw ws.length cw] 41 (0, 0)); simpa using h⟩; have HMa : Aside0 (∃ m, MapAt (wr.alloc (.cells #[.int .i64 id, .int .i64 ow, .int .i64 x] 39 (0, 0)) |>.alloc (.cells #[.int .i64 id, .int .i64 ow, .slice Aw ws.length cw] 41 (0, 0))) Try.prog 3 w4.heap.size (intF Value.bool tk0) m) := ⟨HM.out.elim fun m hm => ⟨m, (hm.alloc _).alloc _⟩⟩; replace HM := HMa; clear HMa; replace K2 := Aside0.mk (blk_below K2.out (below_step hb1 hb)); replace HR0 := Aside0.mk (Kd.C_below HR0.out (below_step hb1 hb)); replace HK := Aside0.mk (below_step HK.out (below_step hb1 hb)); have KX := Aside0.mk (blk_below KX.out hb); have KY := Aside0.mk (blk_below KY.out hb); have HM := Aside0.mk (HM.out.elim fun m hm => Exists.intro m (hm.kept hb) : ∃ m, MapAt w7 Try.prog 3 w4.heap.size (intF Value.bool tk0) m); have zx0 : w7.cell? ⟨wr.heap.size, 0, none⟩ = some (.int .i64 id) := (blk_cell KX.out 0).trans rfl; have zx1 : w7.cell? ⟨wr.heap.size, 1, none⟩ = some (.int .i64 ow) := (blk_cell KX.out 1).trans rfl; have zx2 : w7.cell? ⟨wr.heap.size, 2, none⟩ = some (.int .i64 x) := (blk_cell KX.out 2).trans rfl; have zy0 : w7.cell? ⟨wr.heap.size + 1, 0, none⟩ = some (.int .i64 id) := (blk_cell KY.out 0).trans rfl; have zy1 : w7.cell? ⟨wr.heap.size + 1, 1, none⟩ = some (.int .i64 ow) := (blk_cell KY.out 1).trans rfl; have zK2_0 : w7.cell? ⟨g2, 0, none⟩ = some (.slice A0 F.length c0) := (blk_cell K2.out 0).trans rfl; (obtain ⟨A8, c8, rfl, hc8, hC8⟩ := Kd.R_reads hR); have HR8 := Aside0.mk hC8; have HC8 := Aside0.mk hc8; clear hR hC8 hc8 hb hb1)
            | (go_at_call 24; (with_reducible refine (cohousingref23_In.calls ki1 A8 c8 l x m1 _ HR8.out HC8.out HI1.out).mono ?_); rintro e w8 ⟨rfl, hd⟩; have hb := hd.below; clear hd; replace K2 := Aside0.mk (blk_below K2.out hb); replace HR0 := Aside0.mk (Kd.C_below HR0.out hb); replace HR8 := Aside0.mk (Kd.C_below HR8.out hb); replace HK := Aside0.mk (below_step HK.out hb); have KX := Aside0.mk (blk_below KX.out hb); have KY := Aside0.mk (blk_below KY.out hb); have HM := Aside0.mk (HM.out.elim fun m hm => Exists.intro m (hm.kept hb) : ∃ m, MapAt w8 Try.prog 3 w4.heap.size (intF Value.bool tk0) m); have zx0 : w8.cell? ⟨wr.heap.size, 0, none⟩ = some (.int .i64 id) := (blk_cell KX.out 0).trans rfl; have zx1 : w8.cell? ⟨wr.heap.size, 1, none⟩ = some (.int .i64 ow) := (blk_cell KX.out 1).trans rfl; have zx2 : w8.cell? ⟨wr.heap.size, 2, none⟩ = some (.int .i64 x) := (blk_cell KX.out 2).trans rfl; have zy0 : w8.cell? ⟨wr.heap.size + 1, 0, none⟩ = some (.int .i64 id) := (blk_cell KY.out 0).trans rfl; have zy1 : w8.cell? ⟨wr.heap.size + 1, 1, none⟩ = some (.int .i64 ow) := (blk_cell KY.out 1).trans rfl; have zK2_0 : w8.cell? ⟨g2, 0, none⟩ = some (.slice A0 F.length c0) := (blk_cell K2.out 0).trans rfl; clear hb; have tok := True.intro)
            | (go_at_call 24; (with_reducible refine (cohousingref23_In.calls ki2 A8 c8 l ow m2 _ HR8.out HC8.out HI2.out).mono ?_); rintro e w9 ⟨rfl, hd⟩; have hb := hd.below; clear hd; replace K2 := Aside0.mk (blk_below K2.out hb); replace HR0 := Aside0.mk (Kd.C_below HR0.out hb); replace HR8 := Aside0.mk (Kd.C_below HR8.out hb); replace HK := Aside0.mk (below_step HK.out hb); have KX := Aside0.mk (blk_below KX.out hb); have KY := Aside0.mk (blk_below KY.out hb); have HM := Aside0.mk (HM.out.elim fun m hm => Exists.intro m (hm.kept hb) : ∃ m, MapAt w9 Try.prog 3 w4.heap.size (intF Value.bool tk0) m); have zx0 : w9.cell? ⟨wr.heap.size, 0, none⟩ = some (.int .i64 id) := (blk_cell KX.out 0).trans rfl; have zx1 : w9.cell? ⟨wr.heap.size, 1, none⟩ = some (.int .i64 ow) := (blk_cell KX.out 1).trans rfl; have zx2 : w9.cell? ⟨wr.heap.size, 2, none⟩ = some (.int .i64 x) := (blk_cell KX.out 2).trans rfl; have zy0 : w9.cell? ⟨wr.heap.size + 1, 0, none⟩ = some (.int .i64 id) := (blk_cell KY.out 0).trans rfl; have zy1 : w9.cell? ⟨wr.heap.size + 1, 1, none⟩ = some (.int .i64 ow) := (blk_cell KY.out 1).trans rfl; have zK2_0 : w9.cell? ⟨g2, 0, none⟩ = some (.slice A0 F.length c0) := (blk_cell K2.out 0).trans rfl; clear hb; (have hlk : (Instr.lookup 37 (.map (some w4.heap.size)) (.int .i64 x) false).run Try.prog w9 = .ok (.bool false) w9 := by (obtain ⟨m9, hm9⟩ := HM.out); rw [hm9.look false keyInt Try.underlying37 (zeroB w9) hkey.out, intF_at, looked_false, HTK.out]; rfl))
            | (go_at_call 25; (with_reducible refine (cohousingref23_Has.calls kh A0 c0 F x true _ HR0.out HC0.out HHas.out).mono ?_); rintro e w10 ⟨rfl, hd⟩; have hb := hd.below; clear hd; replace K2 := Aside0.mk (blk_below K2.out hb); replace HK := Aside0.mk (below_step HK.out hb); have KX := Aside0.mk (blk_below KX.out hb); have KY := Aside0.mk (blk_below KY.out hb); have HM := Aside0.mk (HM.out.elim fun m hm => Exists.intro m (hm.kept hb) : ∃ m, MapAt w10 Try.prog 3 w4.heap.size (intF Value.bool tk0) m); have zx0 : w10.cell? ⟨wr.heap.size, 0, none⟩ = some (.int .i64 id) := (blk_cell KX.out 0).trans rfl; have zx1 : w10.cell? ⟨wr.heap.size, 1, none⟩ = some (.int .i64 ow) := (blk_cell KX.out 1).trans rfl; have zx2 : w10.cell? ⟨wr.heap.size, 2, none⟩ = some (.int .i64 x) := (blk_cell KX.out 2).trans rfl; have zy0 : w10.cell? ⟨wr.heap.size + 1, 0, none⟩ = some (.int .i64 id) := (blk_cell KY.out 0).trans rfl; have zy1 : w10.cell? ⟨wr.heap.size + 1, 1, none⟩ = some (.int .i64 ow) := (blk_cell KY.out 1).trans rfl; have zK2_0 : w10.cell? ⟨g2, 0, none⟩ = some (.slice A0 F.length c0) := (blk_cell K2.out 0).trans rfl; clear hb hlk; (obtain ⟨m9, hm9⟩ := HM.out); (obtain ⟨w11, hr2, hm2, hg2, _⟩ := hm9.store keyInt Try.underlying37 hkey.out (.bool true)); rw [intF_put, ← hTx.out] at hm2; have HM2 := Aside0.mk hm2; have HK2 := Aside0.mk (HK.out.grown hg2 HK.out.size (by rintro k h; cases h; exact Nat.le_refl _)); clear hm2 hg2 hm9))
          go_roundg (Mv.length - (i + 1))
          case measure => have := HI.out; omega
          case rel => exact ⟨i + 1, by go_num, ⟨by omega, rfl⟩, ⟨by rw [HTk1.out]; exact ⟨_, HM2.out⟩⟩, HK2⟩
      · obtain rfl : i = Mv.length := by omega
        have hB := below_step HB.out HK.out
        clear HM HK
        go_wp2
        go_ret
        exact ⟨rfl, hB⟩
end Go.Proofs.Ytjgnkhfgmpaljaa.P
