/- Lemmas, readings of functions as plain Lean functions and contracts of functions of the program, for the claimed theorem; each one's conditions stand in its statement. -/
import Derived.Test.YtjgnkhfgmpaljaaQTB26
import Derived.Test.YtjgnkhfgmpaljaaQTB24
namespace Go.Proofs.Ytjgnkhfgmpaljaa.P
set_option linter.unusedSimpArgs false
open Go.RowKit
theorem wfI_okI {x : Int} (h : wfI x) : okI x := by
  unfold wfI at h; unfold okI
  have h1 : IntKind.i64.min = -9223372036854775808 := by decide
  have h2 : IntKind.i64.max = 9223372036854775807 := by decide
  simp [Lit.wf] at h
  omega
end Go.Proofs.Ytjgnkhfgmpaljaa.P
namespace Go.Proofs.Ytjgnkhfgmpaljaa.P
open Go.RowKit Go.Proofs.YtjgnkhfgmpaljaaW.PrintWords Go.Proofs.YtjgnkhfgmpaljaaW.PrintLast Go.Proofs.YtjgnkhfgmpaljaaW.PrintMore Go.Proofs.Ytjgnkhfgmpaljaa.M
set_option linter.unusedVariables false
set_option linter.unusedSimpArgs false
set_option maxHeartbeats 8000000 in
set_option maxRecDepth 100000 in
theorem cohousinglaw24_TradeHonest.calls (A0 : Option Addr) (c0 : Nat) (F : List S53) (A1 : Option Addr) (c1 : Nat) (P : List S41) (A2 : Option Addr) (c2 : Nat) (ord : List Int) (a : Int) (A3 : Option Addr) (c3 : Nat) (ws : List Int) (w : World)
    (hr0 : Kd.C k53 w A0 F.length F) (hc0 : F.length ≤ c0) (hr1 : Kd.C k41 w A1 P.length P) (hc1 : P.length ≤ c1) (hr2 : Kd.C (Kd.int .i64) w A2 ord.length ord) (hc2 : ord.length ≤ c2) (hr3 : Kd.C (Kd.int .i64) w A3 ws.length ws) (hc3 : ws.length ≤ c3)
    (wm : wf25 ⟨F, P⟩) (wo : wfL ord) (wa : (Lit.int .u8 a).wf = true) (ww : wfL ws) :
    Calls Try.prog 7 #[.agg #[.slice A0 F.length c0, .slice A1 P.length c1], .slice A2 ord.length c2, .int .u8 a, .slice A3 ws.length c3] w fun e w' => e = .returned (.bool true) ∧ Below w.heap.size w w' := by
  have hF : ∀ x ∈ F, okI x.f0 ∧ okI x.f1 := fun x hx => ⟨wfI_okI (wm.1.2 x hx).1, wfI_okI (wm.1.2 x hx).2⟩
  have hP : ∀ p ∈ P, okI p.f1 ∧ ∀ f ∈ p.f2, okI f := fun p hp => ⟨wfI_okI (wm.2.2 p hp).2.1, fun f hf => wfI_okI ((wm.2.2 p hp).2.2.2 f hf)⟩
  have hW : ∀ f ∈ ws, okI f := fun f hf => wfI_okI (ww.2 f hf)
  have hmP : P.length ≤ 9223372036854775807 := by have := wm.2.1; simp only [maxLen] at this; exact this
  have hmW : ws.length ≤ 9223372036854775807 := by have := ww.1; simp only [maxLen] at this; exact this
  obtain ⟨a0, a1⟩ : 0 ≤ a ∧ a ≤ 255 := by
    have h1 : IntKind.u8.min = 0 := by decide
    have h2 : IntKind.u8.max = 255 := by decide
    simp [Lit.wf] at wa; omega
  obtain ⟨ku, hu⟩ := (usable_ev F P ord).rounds
  have HU := Aside0.mk hu
  have HH : Aside0 (cohousinglaw24_head.f = some true) := ⟨rfl⟩
  have hu25 := Try.underlying25
  have hu41 := Try.underlying41
  have HR0 := Aside0.mk hr0
  have HR1 := Aside0.mk hr1
  have HR2 := Aside0.mk hr2
  have HR3 := Aside0.mk hr3
  have HC0 := Aside0.mk hc0
  have HC1 := Aside0.mk hc1
  have HC2 := Aside0.mk hc2
  have HC3 := Aside0.mk hc3
  have HB := Aside0.mk (Below.refl w.heap.size w)
  clear hr0 hr1 hr2 hr3 hc0 hc1 hc2 hc3 wm wo wa ww hu
  cases hu : useR F P ord with
  | false =>
    rw [hu] at HU
    clear hu hF hP hW
    go_enter Try.func7, Try.ntmps7
    go_wp2_with (first
      | ((with_reducible refine gate_dst (N := 4) rfl ?_); refine box_event ?hg (N := 4) ?hd (cs := #[.slice A0 F.length c0, .slice A1 P.length c1]) (t := 25) ?hr ?_; (case hd => rfl); (case hg => rfl); (case hr => first | (go_simp; done) | (go_simp; rfl)); intro g4 hg w1 hbox hb; have Gg4 := Aside0.mk hg; clear hg; replace HB := Aside0.mk (below_step HB.out hb); replace HR0 := Aside0.mk (Kd.C_below HR0.out hb); replace HR1 := Aside0.mk (Kd.C_below HR1.out hb); replace HR2 := Aside0.mk (Kd.C_below HR2.out hb); replace HR3 := Aside0.mk (Kd.C_below HR3.out hb); have K4 := Aside0.mk hbox; clear hbox hb; have zK4_0 : w1.cell? ⟨g4, 0, none⟩ = some (.slice A0 F.length c0) := (blk_cell K4.out 0).trans rfl; have zK4_1 : w1.cell? ⟨g4, 1, none⟩ = some (.slice A1 P.length c1) := (blk_cell K4.out 1).trans rfl)
      | (go_at_call 16; (with_reducible refine (cohousinglaw24_head.calls true _ HH.out).mono ?_); rintro e w2 ⟨rfl, hb⟩; replace HB := Aside0.mk (below_step HB.out hb); replace HR0 := Aside0.mk (Kd.C_below HR0.out hb); replace HR1 := Aside0.mk (Kd.C_below HR1.out hb); replace HR2 := Aside0.mk (Kd.C_below HR2.out hb); replace HR3 := Aside0.mk (Kd.C_below HR3.out hb); replace K4 := Aside0.mk (blk_below K4.out hb); clear zK4_0 zK4_1; have zK4_0 : w2.cell? ⟨g4, 0, none⟩ = some (.slice A0 F.length c0) := (blk_cell K4.out 0).trans rfl; have zK4_1 : w2.cell? ⟨g4, 1, none⟩ = some (.slice A1 P.length c1) := (blk_cell K4.out 1).trans rfl; clear hb)
      | (go_at_call 22; (with_reducible refine (cohousinglaw24_usable.calls ku A0 c0 F A1 c1 P A2 c2 ord false _ HR0.out HC0.out HR1.out HC1.out HR2.out HC2.out HU.out).mono ?_); rintro e w3 ⟨rfl, hb⟩; replace HB := Aside0.mk (below_step HB.out hb); replace HR0 := Aside0.mk (Kd.C_below HR0.out hb); replace HR1 := Aside0.mk (Kd.C_below HR1.out hb); replace HR2 := Aside0.mk (Kd.C_below HR2.out hb); replace HR3 := Aside0.mk (Kd.C_below HR3.out hb); replace K4 := Aside0.mk (blk_below K4.out hb); clear zK4_0 zK4_1; have zK4_0 : w3.cell? ⟨g4, 0, none⟩ = some (.slice A0 F.length c0) := (blk_cell K4.out 0).trans rfl; have zK4_1 : w3.cell? ⟨g4, 1, none⟩ = some (.slice A1 P.length c1) := (blk_cell K4.out 1).trans rfl; clear hb))
    go_ret
    exact ⟨rfl, HB.out⟩
  | true =>
    rw [hu] at HU
    obtain ⟨hb, hi, hfine⟩ := use_fine hu hF hP
    have hP20 : P.length ≤ 1000 := by have := hfine.n; omega
    have hF20 : F.length ≤ 20 := by unfold useR at hu; rw [Bool.and_eq_true] at hu; exact (fewR_iff.1 hu.1).1
    clear hu
    by_cases hz : P.length = 0
    · have q0 : ((P.length : Int) == 0) = true := by simpa using hz
      clear hb hi hfine hF hP hW hP20 hz
      go_enter Try.func7, Try.ntmps7
      go_wp2_with (first
        | ((with_reducible refine gate_dst (N := 4) rfl ?_); refine box_event ?hg (N := 4) ?hd (cs := #[.slice A0 F.length c0, .slice A1 P.length c1]) (t := 25) ?hr ?_; (case hd => rfl); (case hg => rfl); (case hr => first | (go_simp; done) | (go_simp; rfl)); intro g4 hg w1 hbox hb; have Gg4 := Aside0.mk hg; clear hg; replace HB := Aside0.mk (below_step HB.out hb); replace HR0 := Aside0.mk (Kd.C_below HR0.out hb); replace HR1 := Aside0.mk (Kd.C_below HR1.out hb); replace HR2 := Aside0.mk (Kd.C_below HR2.out hb); replace HR3 := Aside0.mk (Kd.C_below HR3.out hb); have K4 := Aside0.mk hbox; clear hbox hb; have zK4_0 : w1.cell? ⟨g4, 0, none⟩ = some (.slice A0 F.length c0) := (blk_cell K4.out 0).trans rfl; have zK4_1 : w1.cell? ⟨g4, 1, none⟩ = some (.slice A1 P.length c1) := (blk_cell K4.out 1).trans rfl)
        | (go_at_call 16; (with_reducible refine (cohousinglaw24_head.calls true _ HH.out).mono ?_); rintro e w2 ⟨rfl, hb⟩; replace HB := Aside0.mk (below_step HB.out hb); replace HR0 := Aside0.mk (Kd.C_below HR0.out hb); replace HR1 := Aside0.mk (Kd.C_below HR1.out hb); replace HR2 := Aside0.mk (Kd.C_below HR2.out hb); replace HR3 := Aside0.mk (Kd.C_below HR3.out hb); replace K4 := Aside0.mk (blk_below K4.out hb); clear zK4_0 zK4_1; have zK4_0 : w2.cell? ⟨g4, 0, none⟩ = some (.slice A0 F.length c0) := (blk_cell K4.out 0).trans rfl; have zK4_1 : w2.cell? ⟨g4, 1, none⟩ = some (.slice A1 P.length c1) := (blk_cell K4.out 1).trans rfl; clear hb)
        | (go_at_call 22; (with_reducible refine (cohousinglaw24_usable.calls ku A0 c0 F A1 c1 P A2 c2 ord true _ HR0.out HC0.out HR1.out HC1.out HR2.out HC2.out HU.out).mono ?_); rintro e w3 ⟨rfl, hb⟩; replace HB := Aside0.mk (below_step HB.out hb); replace HR0 := Aside0.mk (Kd.C_below HR0.out hb); replace HR1 := Aside0.mk (Kd.C_below HR1.out hb); replace HR2 := Aside0.mk (Kd.C_below HR2.out hb); replace HR3 := Aside0.mk (Kd.C_below HR3.out hb); replace K4 := Aside0.mk (blk_below K4.out hb); clear zK4_0 zK4_1; have zK4_0 : w3.cell? ⟨g4, 0, none⟩ = some (.slice A0 F.length c0) := (blk_cell K4.out 0).trans rfl; have zK4_1 : w3.cell? ⟨g4, 1, none⟩ = some (.slice A1 P.length c1) := (blk_cell K4.out 1).trans rfl; clear hb))
      go_ret
      exact ⟨rfl, HB.out⟩
    · have q0 : ((P.length : Int) == 0) = false := by simpa using hz
      by_cases hw : 30 < ws.length
      · have q1 : decide ((30 : Int) < (ws.length : Int)) = true := decide_eq_true (by omega)
        clear hb hi hfine hF hP hW hP20 hw hz
        go_enter Try.func7, Try.ntmps7
        go_wp2_with (first
          | ((with_reducible refine gate_dst (N := 4) rfl ?_); refine box_event ?hg (N := 4) ?hd (cs := #[.slice A0 F.length c0, .slice A1 P.length c1]) (t := 25) ?hr ?_; (case hd => rfl); (case hg => rfl); (case hr => first | (go_simp; done) | (go_simp; rfl)); intro g4 hg w1 hbox hb; have Gg4 := Aside0.mk hg; clear hg; replace HB := Aside0.mk (below_step HB.out hb); replace HR0 := Aside0.mk (Kd.C_below HR0.out hb); replace HR1 := Aside0.mk (Kd.C_below HR1.out hb); replace HR2 := Aside0.mk (Kd.C_below HR2.out hb); replace HR3 := Aside0.mk (Kd.C_below HR3.out hb); have K4 := Aside0.mk hbox; clear hbox hb; have zK4_0 : w1.cell? ⟨g4, 0, none⟩ = some (.slice A0 F.length c0) := (blk_cell K4.out 0).trans rfl; have zK4_1 : w1.cell? ⟨g4, 1, none⟩ = some (.slice A1 P.length c1) := (blk_cell K4.out 1).trans rfl)
          | (go_at_call 16; (with_reducible refine (cohousinglaw24_head.calls true _ HH.out).mono ?_); rintro e w2 ⟨rfl, hb⟩; replace HB := Aside0.mk (below_step HB.out hb); replace HR0 := Aside0.mk (Kd.C_below HR0.out hb); replace HR1 := Aside0.mk (Kd.C_below HR1.out hb); replace HR2 := Aside0.mk (Kd.C_below HR2.out hb); replace HR3 := Aside0.mk (Kd.C_below HR3.out hb); replace K4 := Aside0.mk (blk_below K4.out hb); clear zK4_0 zK4_1; have zK4_0 : w2.cell? ⟨g4, 0, none⟩ = some (.slice A0 F.length c0) := (blk_cell K4.out 0).trans rfl; have zK4_1 : w2.cell? ⟨g4, 1, none⟩ = some (.slice A1 P.length c1) := (blk_cell K4.out 1).trans rfl; clear hb)
          | (go_at_call 22; (with_reducible refine (cohousinglaw24_usable.calls ku A0 c0 F A1 c1 P A2 c2 ord true _ HR0.out HC0.out HR1.out HC1.out HR2.out HC2.out HU.out).mono ?_); rintro e w3 ⟨rfl, hb⟩; replace HB := Aside0.mk (below_step HB.out hb); replace HR0 := Aside0.mk (Kd.C_below HR0.out hb); replace HR1 := Aside0.mk (Kd.C_below HR1.out hb); replace HR2 := Aside0.mk (Kd.C_below HR2.out hb); replace HR3 := Aside0.mk (Kd.C_below HR3.out hb); replace K4 := Aside0.mk (blk_below K4.out hb); clear zK4_0 zK4_1; have zK4_0 : w3.cell? ⟨g4, 0, none⟩ = some (.slice A0 F.length c0) := (blk_cell K4.out 0).trans rfl; have zK4_1 : w3.cell? ⟨g4, 1, none⟩ = some (.slice A1 P.length c1) := (blk_cell K4.out 1).trans rfl; clear hb))
        go_ret
        exact ⟨rfl, HB.out⟩
      · have q1 : decide ((30 : Int) < (ws.length : Int)) = false := decide_eq_false (by omega)
        obtain ⟨k, hk, hka⟩ : ∃ k : Nat, k < P.length ∧ (k : Int) = a % (P.length : Int) := ⟨a.toNat % P.length, Nat.mod_lt _ (by omega), by rw [Int.natCast_emod, Int.toNat_of_nonneg a0]⟩
        have e1 : a % (P.length : Int) = (k : Int) := hka.symm
        have e2 : a.tmod (P.length : Int) = (k : Int) := by rw [Int.tmod_eq_emod_of_nonneg a0]; exact e1
        have e3 : (wrap64 a).tmod (P.length : Int) = (k : Int) := by rw [show wrap64 a = a from by unfold wrap64; omega]; exact e2
        clear hka
        obtain ⟨Q, hQ⟩ : ∃ Q, Q = lieP P k ws := ⟨_, rfl⟩
        have HQ := Aside0.mk hQ
        have hQl : Q.length = P.length := by rw [hQ]; exact lie_len
        obtain ⟨kv, hv⟩ := (valid_ev F Q (by omega) (by have := hfine.n; omega) (fun p hp => by
          rw [hQ] at hp
          rcases List.mem_or_eq_of_mem_set hp with hp | rfl
          · have := (hfine.ok p hp).1; omega
          · show ws.length ≤ 1000000; omega)).rounds
        have HV := Aside0.mk hv
        clear hv
        cases hvb : validG F Q with
        | false =>
          rw [hvb] at HV
          clear hvb hb hi hfine hF hP hW hQ hQl hw hz a0 a1
          go_enter Try.func7, Try.ntmps7
          go_wp2_with (first
            | ((with_reducible refine gate_dst (N := 4) rfl ?_); refine box_event ?hg (N := 4) ?hd (cs := #[.slice A0 F.length c0, .slice A1 P.length c1]) (t := 25) ?hr ?_; (case hd => rfl); (case hg => rfl); (case hr => first | (go_simp; done) | (go_simp; rfl)); intro g4 hg w1 hbox hb; have Gg4 := Aside0.mk hg; clear hg; replace HB := Aside0.mk (below_step HB.out hb); replace HR0 := Aside0.mk (Kd.C_below HR0.out hb); replace HR1 := Aside0.mk (Kd.C_below HR1.out hb); replace HR2 := Aside0.mk (Kd.C_below HR2.out hb); replace HR3 := Aside0.mk (Kd.C_below HR3.out hb); have K4 := Aside0.mk hbox; clear hbox hb; have zK4_0 : w1.cell? ⟨g4, 0, none⟩ = some (.slice A0 F.length c0) := (blk_cell K4.out 0).trans rfl; have zK4_1 : w1.cell? ⟨g4, 1, none⟩ = some (.slice A1 P.length c1) := (blk_cell K4.out 1).trans rfl)
            | (go_at_call 16; (with_reducible refine (cohousinglaw24_head.calls true _ HH.out).mono ?_); rintro e w2 ⟨rfl, hb⟩; replace HB := Aside0.mk (below_step HB.out hb); replace HR0 := Aside0.mk (Kd.C_below HR0.out hb); replace HR1 := Aside0.mk (Kd.C_below HR1.out hb); replace HR2 := Aside0.mk (Kd.C_below HR2.out hb); replace HR3 := Aside0.mk (Kd.C_below HR3.out hb); replace K4 := Aside0.mk (blk_below K4.out hb); clear zK4_0 zK4_1; have zK4_0 : w2.cell? ⟨g4, 0, none⟩ = some (.slice A0 F.length c0) := (blk_cell K4.out 0).trans rfl; have zK4_1 : w2.cell? ⟨g4, 1, none⟩ = some (.slice A1 P.length c1) := (blk_cell K4.out 1).trans rfl; clear hb)
            | (go_at_call 22; (with_reducible refine (cohousinglaw24_usable.calls ku A0 c0 F A1 c1 P A2 c2 ord true _ HR0.out HC0.out HR1.out HC1.out HR2.out HC2.out HU.out).mono ?_); rintro e w3 ⟨rfl, hb⟩; replace HB := Aside0.mk (below_step HB.out hb); replace HR0 := Aside0.mk (Kd.C_below HR0.out hb); replace HR1 := Aside0.mk (Kd.C_below HR1.out hb); replace HR2 := Aside0.mk (Kd.C_below HR2.out hb); replace HR3 := Aside0.mk (Kd.C_below HR3.out hb); replace K4 := Aside0.mk (blk_below K4.out hb); clear zK4_0 zK4_1; have zK4_0 : w3.cell? ⟨g4, 0, none⟩ = some (.slice A0 F.length c0) := (blk_cell K4.out 0).trans rfl; have zK4_1 : w3.cell? ⟨g4, 1, none⟩ = some (.slice A1 P.length c1) := (blk_cell K4.out 1).trans rfl; clear hb)
            | (go_at_call 28; (with_reducible refine (lied_calls A0 c0 F.length A1 c1 P k A3 c3 ws Q HQ.out _ HR1.out HC1.out HR3.out HC3.out hk hP20).mono ?_); rintro e w4 ⟨A5, c5, rfl, hc5, hC5, hb⟩; replace HB := Aside0.mk (below_step HB.out hb); replace HR0 := Aside0.mk (Kd.C_below HR0.out hb); replace HR1 := Aside0.mk (Kd.C_below HR1.out hb); replace HR2 := Aside0.mk (Kd.C_below HR2.out hb); replace HR3 := Aside0.mk (Kd.C_below HR3.out hb); replace K4 := Aside0.mk (blk_below K4.out hb); clear zK4_0 zK4_1; have zK4_0 : w4.cell? ⟨g4, 0, none⟩ = some (.slice A0 F.length c0) := (blk_cell K4.out 0).trans rfl; have zK4_1 : w4.cell? ⟨g4, 1, none⟩ = some (.slice A1 P.length c1) := (blk_cell K4.out 1).trans rfl; clear hb; have HR5 := Aside0.mk hC5; have HC5 := Aside0.mk hc5; clear hC5 hc5)
            | (go_at_call 29; have hb := below_alloc (Below.refl w4.heap.size w4) (.cells #[.slice A0 F.length c0, .slice A5 Q.length c5] 25 (0, 0)); have K11 := Aside0.mk (blk_new w4 (.cells #[.slice A0 F.length c0, .slice A5 Q.length c5] 25 (0, 0))); (obtain ⟨w5, hw5⟩ : ∃ x, x = w4.alloc (.cells #[.slice A0 F.length c0, .slice A5 Q.length c5] 25 (0, 0)) := ⟨_, rfl⟩); (obtain ⟨g11, hg11⟩ : ∃ x, x = w4.heap.size := ⟨_, rfl⟩); rw [← hw5, ← hg11] at K11; rw [← hw5] at hb; replace HB := Aside0.mk (below_step HB.out hb); replace HR0 := Aside0.mk (Kd.C_below HR0.out hb); replace HR1 := Aside0.mk (Kd.C_below HR1.out hb); replace HR2 := Aside0.mk (Kd.C_below HR2.out hb); replace HR3 := Aside0.mk (Kd.C_below HR3.out hb); replace HR5 := Aside0.mk (Kd.C_below HR5.out hb); replace K4 := Aside0.mk (blk_below K4.out hb); clear hb; clear zK4_0 zK4_1; have zK4_0 : w5.cell? ⟨g4, 0, none⟩ = some (.slice A0 F.length c0) := (blk_cell K4.out 0).trans rfl; have zK4_1 : w5.cell? ⟨g4, 1, none⟩ = some (.slice A1 P.length c1) := (blk_cell K4.out 1).trans rfl; have zK11_0 : w5.cell? ⟨g11, 0, none⟩ = some (.slice A0 F.length c0) := (blk_cell K11.out 0).trans rfl; have zK11_1 : w5.cell? ⟨g11, 1, none⟩ = some (.slice A5 Q.length c5) := (blk_cell K11.out 1).trans rfl; (simp only [← hw5, ← hg11]); clear hw5 hg11; (with_reducible refine (cohousingref23_Valid.calls kv A0 c0 F A5 c5 Q false _ HR0.out HC0.out HR5.out HC5.out HV.out).mono ?_); rintro e w6 ⟨rfl, hb⟩; replace HB := Aside0.mk (below_step HB.out hb); replace HR0 := Aside0.mk (Kd.C_below HR0.out hb); replace HR1 := Aside0.mk (Kd.C_below HR1.out hb); replace HR2 := Aside0.mk (Kd.C_below HR2.out hb); replace HR3 := Aside0.mk (Kd.C_below HR3.out hb); replace HR5 := Aside0.mk (Kd.C_below HR5.out hb); replace K4 := Aside0.mk (blk_below K4.out hb); replace K11 := Aside0.mk (blk_below K11.out hb); clear zK4_0 zK4_1; have zK4_0 : w6.cell? ⟨g4, 0, none⟩ = some (.slice A0 F.length c0) := (blk_cell K4.out 0).trans rfl; have zK4_1 : w6.cell? ⟨g4, 1, none⟩ = some (.slice A1 P.length c1) := (blk_cell K4.out 1).trans rfl; clear zK11_0 zK11_1; have zK11_0 : w6.cell? ⟨g11, 0, none⟩ = some (.slice A0 F.length c0) := (blk_cell K11.out 0).trans rfl; have zK11_1 : w6.cell? ⟨g11, 1, none⟩ = some (.slice A5 Q.length c5) := (blk_cell K11.out 1).trans rfl; clear hb))
          go_ret
          exact ⟨rfl, HB.out⟩
        | true =>
          rw [hvb] at HV
          have hbQ : okB F Q ord = true := by
            unfold okB at hb ⊢
            rw [Bool.and_eq_true] at hb ⊢
            rw [hQl]
            exact ⟨hvb, hb.2⟩
          have hfQ : Fine Q ord := by rw [hQ] at hbQ ⊢; exact lie_fine hfine hk hbQ (by omega) hW
          have hiQ : okIn F Q ord = true := okIn_iff.2 ⟨hfQ.n, (okIn_iff.1 hi).2.1, hF, hfQ.ok⟩
          obtain ⟨htl, hg⟩ := gets hfine
          obtain ⟨htl2, hg2⟩ := gets hfQ
          obtain ⟨ks, hs1⟩ := (solved_ev hi hb htl).rounds
          obtain ⟨ks2, hs2⟩ := (solved_ev hiQ hbQ htl2).rounds
          have HS1 := Aside0.mk hs1
          have HS2 := Aside0.mk hs2
          have HT := Aside0.mk (And.intro hfine (And.intro hfQ (And.intro hg hg2)))
          have hl1 := htl
          have hl2 : (finalG Q ord).tos.length = P.length := htl2.trans hQl
          clear hs1 hs2 hvb hb hi hF hP hW hbQ hiQ htl htl2 hw hz a0 a1 hg hg2
          obtain ⟨kr, hr⟩ := (ranking_ev (rd_T41 P (k : Int)).f0 (rd_T41 P (k : Int)).f1 (rd_T41 P (k : Int)).f2 (by have := (hfine.ok _ (rd41_mem hk)).1; omega)).rounds
          have HRk : Aside0 (cohousingref23_Ranking.f kr (rd_T41 P (k : Int)).f0 (rd_T41 P (k : Int)).f1 (rd_T41 P (k : Int)).f2 = some (rankL (ownP P k) (wantsP P k))) := ⟨hr⟩
          have hrl := rank_len (P := P) (p := k) (hfine.ok _ (rd41_mem hk)).1
          have hlaw : inZ (rd (finalG Q ord).tos (k : Int)) 0 (rankL (ownP P k) (wantsP P k)) < 0 ∨ inZ (rd (finalG P ord).tos (k : Int)) 0 (rankL (ownP P k) (wantsP P k)) ≤ inZ (rd (finalG Q ord).tos (k : Int)) 0 (rankL (ownP P k) (wantsP P k)) := by
            refine inZ_le (HT.out.2.2.1 k hk).2 (fun hm => ?_)
            rw [hQ] at hm hfQ ⊢
            exact lie_honest hfine hfQ hk hm
          clear hr hfQ hfine hQ HT
          generalize (finalG P ord).tos = T1 at *
          generalize (finalG Q ord).tos = T2 at *
          generalize rankL (ownP P k) (wantsP P k) = l at *
          obtain ⟨ki1, hi1⟩ := (in_ev l (rd T1 (k : Int)) (by omega)).rounds
          obtain ⟨ki2, hi2⟩ := (in_ev l (rd T2 (k : Int)) (by omega)).rounds
          have HI1 := Aside0.mk hi1
          have HI2 := Aside0.mk hi2
          clear hi1 hi2
          generalize inZ (rd T1 (k : Int)) 0 l = i1 at *
          generalize inZ (rd T2 (k : Int)) 0 l = i2 at *
          obtain ⟨x1, hx1⟩ : ∃ x, x = rd T1 (k : Int) := ⟨_, rfl⟩
          obtain ⟨x2, hx2⟩ : ∃ x, x = rd T2 (k : Int) := ⟨_, rfl⟩
          rw [← hx1] at HI1
          rw [← hx2] at HI2
          have HX1 := Aside0.mk hx1
          have HX2 := Aside0.mk hx2
          clear hx1 hx2 hrl
          have p0 : (0 : Int) ≤ (k : Int) := Int.natCast_nonneg k
          have p1 : (k : Int) < (T1.length : Int) := by omega
          have p2 : (k : Int) < (T2.length : Int) := by omega
          have p3 : (k : Int) < (P.length : Int) := by omega
          clear hQl
          have HL1 := Aside0.mk hl1
          have HL2 := Aside0.mk hl2
          clear hl1 hl2
          by_cases hneg : i2 < 0
          · have r0 : decide (i2 < 0) = true := decide_eq_true hneg
            clear hlaw hneg
            go_enter Try.func7, Try.ntmps7
            go_wp2_with (first
              | ((with_reducible refine gate_dst (N := 4) rfl ?_); refine box_event ?hg (N := 4) ?hd (cs := #[.slice A0 F.length c0, .slice A1 P.length c1]) (t := 25) ?hr ?_; (case hd => rfl); (case hg => rfl); (case hr => first | (go_simp; done) | (go_simp; rfl)); intro g4 hg w1 hbox hb; have Gg4 := Aside0.mk hg; clear hg; replace HB := Aside0.mk (below_step HB.out hb); replace HR0 := Aside0.mk (Kd.C_below HR0.out hb); replace HR1 := Aside0.mk (Kd.C_below HR1.out hb); replace HR2 := Aside0.mk (Kd.C_below HR2.out hb); replace HR3 := Aside0.mk (Kd.C_below HR3.out hb); have K4 := Aside0.mk hbox; clear hbox hb; have zK4_0 : w1.cell? ⟨g4, 0, none⟩ = some (.slice A0 F.length c0) := (blk_cell K4.out 0).trans rfl; have zK4_1 : w1.cell? ⟨g4, 1, none⟩ = some (.slice A1 P.length c1) := (blk_cell K4.out 1).trans rfl)
              | (go_at_call 16; (with_reducible refine (cohousinglaw24_head.calls true _ HH.out).mono ?_); rintro e w2 ⟨rfl, hb⟩; replace HB := Aside0.mk (below_step HB.out hb); replace HR0 := Aside0.mk (Kd.C_below HR0.out hb); replace HR1 := Aside0.mk (Kd.C_below HR1.out hb); replace HR2 := Aside0.mk (Kd.C_below HR2.out hb); replace HR3 := Aside0.mk (Kd.C_below HR3.out hb); replace K4 := Aside0.mk (blk_below K4.out hb); clear zK4_0 zK4_1; have zK4_0 : w2.cell? ⟨g4, 0, none⟩ = some (.slice A0 F.length c0) := (blk_cell K4.out 0).trans rfl; have zK4_1 : w2.cell? ⟨g4, 1, none⟩ = some (.slice A1 P.length c1) := (blk_cell K4.out 1).trans rfl; clear hb)
              | (go_at_call 22; (with_reducible refine (cohousinglaw24_usable.calls ku A0 c0 F A1 c1 P A2 c2 ord true _ HR0.out HC0.out HR1.out HC1.out HR2.out HC2.out HU.out).mono ?_); rintro e w3 ⟨rfl, hb⟩; replace HB := Aside0.mk (below_step HB.out hb); replace HR0 := Aside0.mk (Kd.C_below HR0.out hb); replace HR1 := Aside0.mk (Kd.C_below HR1.out hb); replace HR2 := Aside0.mk (Kd.C_below HR2.out hb); replace HR3 := Aside0.mk (Kd.C_below HR3.out hb); replace K4 := Aside0.mk (blk_below K4.out hb); clear zK4_0 zK4_1; have zK4_0 : w3.cell? ⟨g4, 0, none⟩ = some (.slice A0 F.length c0) := (blk_cell K4.out 0).trans rfl; have zK4_1 : w3.cell? ⟨g4, 1, none⟩ = some (.slice A1 P.length c1) := (blk_cell K4.out 1).trans rfl; clear hb)
              | (go_at_call 28; (with_reducible refine (lied_calls A0 c0 F.length A1 c1 P k A3 c3 ws Q HQ.out _ HR1.out HC1.out HR3.out HC3.out hk hP20).mono ?_); rintro e w4 ⟨A5, c5, rfl, hc5, hC5, hb⟩; replace HB := Aside0.mk (below_step HB.out hb); replace HR0 := Aside0.mk (Kd.C_below HR0.out hb); replace HR1 := Aside0.mk (Kd.C_below HR1.out hb); replace HR2 := Aside0.mk (Kd.C_below HR2.out hb); replace HR3 := Aside0.mk (Kd.C_below HR3.out hb); replace K4 := Aside0.mk (blk_below K4.out hb); clear zK4_0 zK4_1; have zK4_0 : w4.cell? ⟨g4, 0, none⟩ = some (.slice A0 F.length c0) := (blk_cell K4.out 0).trans rfl; have zK4_1 : w4.cell? ⟨g4, 1, none⟩ = some (.slice A1 P.length c1) := (blk_cell K4.out 1).trans rfl; clear hb; have HR5 := Aside0.mk hC5; have HC5 := Aside0.mk hc5; clear hC5 hc5)
              | (go_at_call 29; have hb := below_alloc (Below.refl w4.heap.size w4) (.cells #[.slice A0 F.length c0, .slice A5 Q.length c5] 25 (0, 0)); have K11 := Aside0.mk (blk_new w4 (.cells #[.slice A0 F.length c0, .slice A5 Q.length c5] 25 (0, 0))); (obtain ⟨w5, hw5⟩ : ∃ x, x = w4.alloc (.cells #[.slice A0 F.length c0, .slice A5 Q.length c5] 25 (0, 0)) := ⟨_, rfl⟩); (obtain ⟨g11, hg11⟩ : ∃ x, x = w4.heap.size := ⟨_, rfl⟩); rw [← hw5, ← hg11] at K11; rw [← hw5] at hb; replace HB := Aside0.mk (below_step HB.out hb); replace HR0 := Aside0.mk (Kd.C_below HR0.out hb); replace HR1 := Aside0.mk (Kd.C_below HR1.out hb); replace HR2 := Aside0.mk (Kd.C_below HR2.out hb); replace HR3 := Aside0.mk (Kd.C_below HR3.out hb); replace HR5 := Aside0.mk (Kd.C_below HR5.out hb); replace K4 := Aside0.mk (blk_below K4.out hb); clear hb; clear zK4_0 zK4_1; have zK4_0 : w5.cell? ⟨g4, 0, none⟩ = some (.slice A0 F.length c0) := (blk_cell K4.out 0).trans rfl; have zK4_1 : w5.cell? ⟨g4, 1, none⟩ = some (.slice A1 P.length c1) := (blk_cell K4.out 1).trans rfl; have zK11_0 : w5.cell? ⟨g11, 0, none⟩ = some (.slice A0 F.length c0) := (blk_cell K11.out 0).trans rfl; have zK11_1 : w5.cell? ⟨g11, 1, none⟩ = some (.slice A5 Q.length c5) := (blk_cell K11.out 1).trans rfl; (simp only [← hw5, ← hg11]); clear hw5 hg11; (with_reducible refine (cohousingref23_Valid.calls kv A0 c0 F A5 c5 Q true _ HR0.out HC0.out HR5.out HC5.out HV.out).mono ?_); rintro e w6 ⟨rfl, hb⟩; replace HB := Aside0.mk (below_step HB.out hb); replace HR0 := Aside0.mk (Kd.C_below HR0.out hb); replace HR1 := Aside0.mk (Kd.C_below HR1.out hb); replace HR2 := Aside0.mk (Kd.C_below HR2.out hb); replace HR3 := Aside0.mk (Kd.C_below HR3.out hb); replace HR5 := Aside0.mk (Kd.C_below HR5.out hb); replace K4 := Aside0.mk (blk_below K4.out hb); replace K11 := Aside0.mk (blk_below K11.out hb); clear zK4_0 zK4_1; have zK4_0 : w6.cell? ⟨g4, 0, none⟩ = some (.slice A0 F.length c0) := (blk_cell K4.out 0).trans rfl; have zK4_1 : w6.cell? ⟨g4, 1, none⟩ = some (.slice A1 P.length c1) := (blk_cell K4.out 1).trans rfl; clear zK11_0 zK11_1; have zK11_0 : w6.cell? ⟨g11, 0, none⟩ = some (.slice A0 F.length c0) := (blk_cell K11.out 0).trans rfl; have zK11_1 : w6.cell? ⟨g11, 1, none⟩ = some (.slice A5 Q.length c5) := (blk_cell K11.out 1).trans rfl; clear hb)
              | (go_at_call 27; (with_reducible refine (cohousinglaw24_solved.calls ks A0 c0 F A1 c1 P A2 c2 ord T1 true _ HR0.out HC0.out HR1.out HC1.out HR2.out HC2.out HS1.out).mono ?_); rintro e w7 ⟨v6, rfl, hR, hb⟩; replace HB := Aside0.mk (below_step HB.out hb); replace HR0 := Aside0.mk (Kd.C_below HR0.out hb); replace HR1 := Aside0.mk (Kd.C_below HR1.out hb); replace HR2 := Aside0.mk (Kd.C_below HR2.out hb); replace HR3 := Aside0.mk (Kd.C_below HR3.out hb); replace HR5 := Aside0.mk (Kd.C_below HR5.out hb); replace K4 := Aside0.mk (blk_below K4.out hb); replace K11 := Aside0.mk (blk_below K11.out hb); clear zK4_0 zK4_1; have zK4_0 : w7.cell? ⟨g4, 0, none⟩ = some (.slice A0 F.length c0) := (blk_cell K4.out 0).trans rfl; have zK4_1 : w7.cell? ⟨g4, 1, none⟩ = some (.slice A1 P.length c1) := (blk_cell K4.out 1).trans rfl; clear zK11_0 zK11_1; have zK11_0 : w7.cell? ⟨g11, 0, none⟩ = some (.slice A0 F.length c0) := (blk_cell K11.out 0).trans rfl; have zK11_1 : w7.cell? ⟨g11, 1, none⟩ = some (.slice A5 Q.length c5) := (blk_cell K11.out 1).trans rfl; clear hb; (obtain ⟨A6, c6, rfl, hc6, hC6⟩ := Kd.R_reads hR); have HR6 := Aside0.mk hC6; have HC6 := Aside0.mk hc6; clear hR hC6 hc6)
              | (go_at_call 27; (with_reducible refine (cohousinglaw24_solved.calls ks2 A0 c0 F A5 c5 Q A2 c2 ord T2 true _ HR0.out HC0.out HR5.out HC5.out HR2.out HC2.out HS2.out).mono ?_); rintro e w8 ⟨v7, rfl, hR, hb⟩; replace HB := Aside0.mk (below_step HB.out hb); replace HR0 := Aside0.mk (Kd.C_below HR0.out hb); replace HR1 := Aside0.mk (Kd.C_below HR1.out hb); replace HR2 := Aside0.mk (Kd.C_below HR2.out hb); replace HR3 := Aside0.mk (Kd.C_below HR3.out hb); replace HR5 := Aside0.mk (Kd.C_below HR5.out hb); replace HR6 := Aside0.mk (Kd.C_below HR6.out hb); replace K4 := Aside0.mk (blk_below K4.out hb); replace K11 := Aside0.mk (blk_below K11.out hb); clear zK4_0 zK4_1; have zK4_0 : w8.cell? ⟨g4, 0, none⟩ = some (.slice A0 F.length c0) := (blk_cell K4.out 0).trans rfl; have zK4_1 : w8.cell? ⟨g4, 1, none⟩ = some (.slice A1 P.length c1) := (blk_cell K4.out 1).trans rfl; clear zK11_0 zK11_1; have zK11_0 : w8.cell? ⟨g11, 0, none⟩ = some (.slice A0 F.length c0) := (blk_cell K11.out 0).trans rfl; have zK11_1 : w8.cell? ⟨g11, 1, none⟩ = some (.slice A5 Q.length c5) := (blk_cell K11.out 1).trans rfl; clear hb; (obtain ⟨A7, c7, rfl, hc7, hC7⟩ := Kd.R_reads hR); have HR7 := Aside0.mk hC7; have HC7 := Aside0.mk hc7; clear hR hC7 hc7; (obtain ⟨ad, Aw, cw, e, y0, y1, y2, lw, gw⟩ := at_T41 HR1.out (k : Int) p0 p3); cases e; simp only [Int.toNat_natCast] at y0 y1 y2; have HRW := Aside0.mk gw; have HCW := Aside0.mk lw; clear gw lw)
              | (go_at_call 23; (with_reducible refine (cohousingref23_Ranking.calls kr _ _ Aw cw _ l _ HRW.out HCW.out HRk.out).mono ?_); rintro e w9 ⟨v8, rfl, hR, hb⟩; replace HB := Aside0.mk (below_step HB.out hb); replace HR0 := Aside0.mk (Kd.C_below HR0.out hb); replace HR1 := Aside0.mk (Kd.C_below HR1.out hb); replace HR2 := Aside0.mk (Kd.C_below HR2.out hb); replace HR3 := Aside0.mk (Kd.C_below HR3.out hb); replace HR5 := Aside0.mk (Kd.C_below HR5.out hb); replace HR6 := Aside0.mk (Kd.C_below HR6.out hb); replace HR7 := Aside0.mk (Kd.C_below HR7.out hb); replace HRW := Aside0.mk (Kd.C_below HRW.out hb); replace K4 := Aside0.mk (blk_below K4.out hb); replace K11 := Aside0.mk (blk_below K11.out hb); clear zK4_0 zK4_1; have zK4_0 : w9.cell? ⟨g4, 0, none⟩ = some (.slice A0 F.length c0) := (blk_cell K4.out 0).trans rfl; have zK4_1 : w9.cell? ⟨g4, 1, none⟩ = some (.slice (some ad) P.length c1) := (blk_cell K4.out 1).trans rfl; clear zK11_0 zK11_1; have zK11_0 : w9.cell? ⟨g11, 0, none⟩ = some (.slice A0 F.length c0) := (blk_cell K11.out 0).trans rfl; have zK11_1 : w9.cell? ⟨g11, 1, none⟩ = some (.slice A5 Q.length c5) := (blk_cell K11.out 1).trans rfl; clear hb; (obtain ⟨A8, c8, rfl, hc8, hC8⟩ := Kd.R_reads hR); have HR8 := Aside0.mk hC8; have HC8 := Aside0.mk hc8; clear hR hC8 hc8; clear y0 y1 y2; (obtain ⟨ad7, e, u0⟩ := Kd.at_int HR7.out (k : Int) p0 p2); cases e; rw [← HX2.out, Int.toNat_natCast] at u0)
              | (go_at_call 24; (with_reducible refine (cohousingref23_In.calls ki2 A8 c8 l x2 i2 _ HR8.out HC8.out HI2.out).mono ?_); rintro e w10 ⟨rfl, hd⟩; have hb := hd.below; clear hd; replace HB := Aside0.mk (below_step HB.out hb); replace HR0 := Aside0.mk (Kd.C_below HR0.out hb); replace HR1 := Aside0.mk (Kd.C_below HR1.out hb); replace HR2 := Aside0.mk (Kd.C_below HR2.out hb); replace HR3 := Aside0.mk (Kd.C_below HR3.out hb); replace HR5 := Aside0.mk (Kd.C_below HR5.out hb); replace HR6 := Aside0.mk (Kd.C_below HR6.out hb); replace HR7 := Aside0.mk (Kd.C_below HR7.out hb); replace HRW := Aside0.mk (Kd.C_below HRW.out hb); replace HR8 := Aside0.mk (Kd.C_below HR8.out hb); replace K4 := Aside0.mk (blk_below K4.out hb); replace K11 := Aside0.mk (blk_below K11.out hb); clear zK4_0 zK4_1; have zK4_0 : w10.cell? ⟨g4, 0, none⟩ = some (.slice A0 F.length c0) := (blk_cell K4.out 0).trans rfl; have zK4_1 : w10.cell? ⟨g4, 1, none⟩ = some (.slice (some ad) P.length c1) := (blk_cell K4.out 1).trans rfl; clear zK11_0 zK11_1; have zK11_0 : w10.cell? ⟨g11, 0, none⟩ = some (.slice A0 F.length c0) := (blk_cell K11.out 0).trans rfl; have zK11_1 : w10.cell? ⟨g11, 1, none⟩ = some (.slice A5 Q.length c5) := (blk_cell K11.out 1).trans rfl; clear hb; clear u0))
            go_ret
            exact ⟨rfl, HB.out⟩
          · have r0 : decide (i2 < 0) = false := decide_eq_false hneg
            have r1 : decide (i1 ≤ i2) = true := decide_eq_true (hlaw.resolve_left hneg)
            clear hlaw hneg
            go_enter Try.func7, Try.ntmps7
            go_wp2_with (first
              | ((with_reducible refine gate_dst (N := 4) rfl ?_); refine box_event ?hg (N := 4) ?hd (cs := #[.slice A0 F.length c0, .slice A1 P.length c1]) (t := 25) ?hr ?_; (case hd => rfl); (case hg => rfl); (case hr => first | (go_simp; done) | (go_simp; rfl)); intro g4 hg w1 hbox hb; have Gg4 := Aside0.mk hg; clear hg; replace HB := Aside0.mk (below_step HB.out hb); replace HR0 := Aside0.mk (Kd.C_below HR0.out hb); replace HR1 := Aside0.mk (Kd.C_below HR1.out hb); replace HR2 := Aside0.mk (Kd.C_below HR2.out hb); replace HR3 := Aside0.mk (Kd.C_below HR3.out hb); have K4 := Aside0.mk hbox; clear hbox hb; have zK4_0 : w1.cell? ⟨g4, 0, none⟩ = some (.slice A0 F.length c0) := (blk_cell K4.out 0).trans rfl; have zK4_1 : w1.cell? ⟨g4, 1, none⟩ = some (.slice A1 P.length c1) := (blk_cell K4.out 1).trans rfl)
              | (go_at_call 16; (with_reducible refine (cohousinglaw24_head.calls true _ HH.out).mono ?_); rintro e w2 ⟨rfl, hb⟩; replace HB := Aside0.mk (below_step HB.out hb); replace HR0 := Aside0.mk (Kd.C_below HR0.out hb); replace HR1 := Aside0.mk (Kd.C_below HR1.out hb); replace HR2 := Aside0.mk (Kd.C_below HR2.out hb); replace HR3 := Aside0.mk (Kd.C_below HR3.out hb); replace K4 := Aside0.mk (blk_below K4.out hb); clear zK4_0 zK4_1; have zK4_0 : w2.cell? ⟨g4, 0, none⟩ = some (.slice A0 F.length c0) := (blk_cell K4.out 0).trans rfl; have zK4_1 : w2.cell? ⟨g4, 1, none⟩ = some (.slice A1 P.length c1) := (blk_cell K4.out 1).trans rfl; clear hb)
              | (go_at_call 22; (with_reducible refine (cohousinglaw24_usable.calls ku A0 c0 F A1 c1 P A2 c2 ord true _ HR0.out HC0.out HR1.out HC1.out HR2.out HC2.out HU.out).mono ?_); rintro e w3 ⟨rfl, hb⟩; replace HB := Aside0.mk (below_step HB.out hb); replace HR0 := Aside0.mk (Kd.C_below HR0.out hb); replace HR1 := Aside0.mk (Kd.C_below HR1.out hb); replace HR2 := Aside0.mk (Kd.C_below HR2.out hb); replace HR3 := Aside0.mk (Kd.C_below HR3.out hb); replace K4 := Aside0.mk (blk_below K4.out hb); clear zK4_0 zK4_1; have zK4_0 : w3.cell? ⟨g4, 0, none⟩ = some (.slice A0 F.length c0) := (blk_cell K4.out 0).trans rfl; have zK4_1 : w3.cell? ⟨g4, 1, none⟩ = some (.slice A1 P.length c1) := (blk_cell K4.out 1).trans rfl; clear hb)
              | (go_at_call 28; (with_reducible refine (lied_calls A0 c0 F.length A1 c1 P k A3 c3 ws Q HQ.out _ HR1.out HC1.out HR3.out HC3.out hk hP20).mono ?_); rintro e w4 ⟨A5, c5, rfl, hc5, hC5, hb⟩; replace HB := Aside0.mk (below_step HB.out hb); replace HR0 := Aside0.mk (Kd.C_below HR0.out hb); replace HR1 := Aside0.mk (Kd.C_below HR1.out hb); replace HR2 := Aside0.mk (Kd.C_below HR2.out hb); replace HR3 := Aside0.mk (Kd.C_below HR3.out hb); replace K4 := Aside0.mk (blk_below K4.out hb); clear zK4_0 zK4_1; have zK4_0 : w4.cell? ⟨g4, 0, none⟩ = some (.slice A0 F.length c0) := (blk_cell K4.out 0).trans rfl; have zK4_1 : w4.cell? ⟨g4, 1, none⟩ = some (.slice A1 P.length c1) := (blk_cell K4.out 1).trans rfl; clear hb; have HR5 := Aside0.mk hC5; have HC5 := Aside0.mk hc5; clear hC5 hc5)
              | (go_at_call 29; have hb := below_alloc (Below.refl w4.heap.size w4) (.cells #[.slice A0 F.length c0, .slice A5 Q.length c5] 25 (0, 0)); have K11 := Aside0.mk (blk_new w4 (.cells #[.slice A0 F.length c0, .slice A5 Q.length c5] 25 (0, 0))); (obtain ⟨w5, hw5⟩ : ∃ x, x = w4.alloc (.cells #[.slice A0 F.length c0, .slice A5 Q.length c5] 25 (0, 0)) := ⟨_, rfl⟩); (obtain ⟨g11, hg11⟩ : ∃ x, x = w4.heap.size := ⟨_, rfl⟩); rw [← hw5, ← hg11] at K11; rw [← hw5] at hb; replace HB := Aside0.mk (below_step HB.out hb); replace HR0 := Aside0.mk (Kd.C_below HR0.out hb); replace HR1 := Aside0.mk (Kd.C_below HR1.out hb); replace HR2 := Aside0.mk (Kd.C_below HR2.out hb); replace HR3 := Aside0.mk (Kd.C_below HR3.out hb); replace HR5 := Aside0.mk (Kd.C_below HR5.out hb); replace K4 := Aside0.mk (blk_below K4.out hb); clear hb; clear zK4_0 zK4_1; have zK4_0 : w5.cell? ⟨g4, 0, none⟩ = some (.slice A0 F.length c0) := (blk_cell K4.out 0).trans rfl; have zK4_1 : w5.cell? ⟨g4, 1, none⟩ = some (.slice A1 P.length c1) := (blk_cell K4.out 1).trans rfl; have zK11_0 : w5.cell? ⟨g11, 0, none⟩ = some (.slice A0 F.length c0) := (blk_cell K11.out 0).trans rfl; have zK11_1 : w5.cell? ⟨g11, 1, none⟩ = some (.slice A5 Q.length c5) := (blk_cell K11.out 1).trans rfl; (simp only [← hw5, ← hg11]); clear hw5 hg11; (with_reducible refine (cohousingref23_Valid.calls kv A0 c0 F A5 c5 Q true _ HR0.out HC0.out HR5.out HC5.out HV.out).mono ?_); rintro e w6 ⟨rfl, hb⟩; replace HB := Aside0.mk (below_step HB.out hb); replace HR0 := Aside0.mk (Kd.C_below HR0.out hb); replace HR1 := Aside0.mk (Kd.C_below HR1.out hb); replace HR2 := Aside0.mk (Kd.C_below HR2.out hb); replace HR3 := Aside0.mk (Kd.C_below HR3.out hb); replace HR5 := Aside0.mk (Kd.C_below HR5.out hb); replace K4 := Aside0.mk (blk_below K4.out hb); replace K11 := Aside0.mk (blk_below K11.out hb); clear zK4_0 zK4_1; have zK4_0 : w6.cell? ⟨g4, 0, none⟩ = some (.slice A0 F.length c0) := (blk_cell K4.out 0).trans rfl; have zK4_1 : w6.cell? ⟨g4, 1, none⟩ = some (.slice A1 P.length c1) := (blk_cell K4.out 1).trans rfl; clear zK11_0 zK11_1; have zK11_0 : w6.cell? ⟨g11, 0, none⟩ = some (.slice A0 F.length c0) := (blk_cell K11.out 0).trans rfl; have zK11_1 : w6.cell? ⟨g11, 1, none⟩ = some (.slice A5 Q.length c5) := (blk_cell K11.out 1).trans rfl; clear hb)
              | (go_at_call 27; (with_reducible refine (cohousinglaw24_solved.calls ks A0 c0 F A1 c1 P A2 c2 ord T1 true _ HR0.out HC0.out HR1.out HC1.out HR2.out HC2.out HS1.out).mono ?_); rintro e w7 ⟨v6, rfl, hR, hb⟩; replace HB := Aside0.mk (below_step HB.out hb); replace HR0 := Aside0.mk (Kd.C_below HR0.out hb); replace HR1 := Aside0.mk (Kd.C_below HR1.out hb); replace HR2 := Aside0.mk (Kd.C_below HR2.out hb); replace HR3 := Aside0.mk (Kd.C_below HR3.out hb); replace HR5 := Aside0.mk (Kd.C_below HR5.out hb); replace K4 := Aside0.mk (blk_below K4.out hb); replace K11 := Aside0.mk (blk_below K11.out hb); clear zK4_0 zK4_1; have zK4_0 : w7.cell? ⟨g4, 0, none⟩ = some (.slice A0 F.length c0) := (blk_cell K4.out 0).trans rfl; have zK4_1 : w7.cell? ⟨g4, 1, none⟩ = some (.slice A1 P.length c1) := (blk_cell K4.out 1).trans rfl; clear zK11_0 zK11_1; have zK11_0 : w7.cell? ⟨g11, 0, none⟩ = some (.slice A0 F.length c0) := (blk_cell K11.out 0).trans rfl; have zK11_1 : w7.cell? ⟨g11, 1, none⟩ = some (.slice A5 Q.length c5) := (blk_cell K11.out 1).trans rfl; clear hb; (obtain ⟨A6, c6, rfl, hc6, hC6⟩ := Kd.R_reads hR); have HR6 := Aside0.mk hC6; have HC6 := Aside0.mk hc6; clear hR hC6 hc6)
              | (go_at_call 27; (with_reducible refine (cohousinglaw24_solved.calls ks2 A0 c0 F A5 c5 Q A2 c2 ord T2 true _ HR0.out HC0.out HR5.out HC5.out HR2.out HC2.out HS2.out).mono ?_); rintro e w8 ⟨v7, rfl, hR, hb⟩; replace HB := Aside0.mk (below_step HB.out hb); replace HR0 := Aside0.mk (Kd.C_below HR0.out hb); replace HR1 := Aside0.mk (Kd.C_below HR1.out hb); replace HR2 := Aside0.mk (Kd.C_below HR2.out hb); replace HR3 := Aside0.mk (Kd.C_below HR3.out hb); replace HR5 := Aside0.mk (Kd.C_below HR5.out hb); replace HR6 := Aside0.mk (Kd.C_below HR6.out hb); replace K4 := Aside0.mk (blk_below K4.out hb); replace K11 := Aside0.mk (blk_below K11.out hb); clear zK4_0 zK4_1; have zK4_0 : w8.cell? ⟨g4, 0, none⟩ = some (.slice A0 F.length c0) := (blk_cell K4.out 0).trans rfl; have zK4_1 : w8.cell? ⟨g4, 1, none⟩ = some (.slice A1 P.length c1) := (blk_cell K4.out 1).trans rfl; clear zK11_0 zK11_1; have zK11_0 : w8.cell? ⟨g11, 0, none⟩ = some (.slice A0 F.length c0) := (blk_cell K11.out 0).trans rfl; have zK11_1 : w8.cell? ⟨g11, 1, none⟩ = some (.slice A5 Q.length c5) := (blk_cell K11.out 1).trans rfl; clear hb; (obtain ⟨A7, c7, rfl, hc7, hC7⟩ := Kd.R_reads hR); have HR7 := Aside0.mk hC7; have HC7 := Aside0.mk hc7; clear hR hC7 hc7; (obtain ⟨ad, Aw, cw, e, y0, y1, y2, lw, gw⟩ := at_T41 HR1.out (k : Int) p0 p3); cases e; simp only [Int.toNat_natCast] at y0 y1 y2; have HRW := Aside0.mk gw; have HCW := Aside0.mk lw; clear gw lw)
              | (go_at_call 23; (with_reducible refine (cohousingref23_Ranking.calls kr _ _ Aw cw _ l _ HRW.out HCW.out HRk.out).mono ?_); rintro e w9 ⟨v8, rfl, hR, hb⟩; replace HB := Aside0.mk (below_step HB.out hb); replace HR0 := Aside0.mk (Kd.C_below HR0.out hb); replace HR1 := Aside0.mk (Kd.C_below HR1.out hb); replace HR2 := Aside0.mk (Kd.C_below HR2.out hb); replace HR3 := Aside0.mk (Kd.C_below HR3.out hb); replace HR5 := Aside0.mk (Kd.C_below HR5.out hb); replace HR6 := Aside0.mk (Kd.C_below HR6.out hb); replace HR7 := Aside0.mk (Kd.C_below HR7.out hb); replace HRW := Aside0.mk (Kd.C_below HRW.out hb); replace K4 := Aside0.mk (blk_below K4.out hb); replace K11 := Aside0.mk (blk_below K11.out hb); clear zK4_0 zK4_1; have zK4_0 : w9.cell? ⟨g4, 0, none⟩ = some (.slice A0 F.length c0) := (blk_cell K4.out 0).trans rfl; have zK4_1 : w9.cell? ⟨g4, 1, none⟩ = some (.slice (some ad) P.length c1) := (blk_cell K4.out 1).trans rfl; clear zK11_0 zK11_1; have zK11_0 : w9.cell? ⟨g11, 0, none⟩ = some (.slice A0 F.length c0) := (blk_cell K11.out 0).trans rfl; have zK11_1 : w9.cell? ⟨g11, 1, none⟩ = some (.slice A5 Q.length c5) := (blk_cell K11.out 1).trans rfl; clear hb; (obtain ⟨A8, c8, rfl, hc8, hC8⟩ := Kd.R_reads hR); have HR8 := Aside0.mk hC8; have HC8 := Aside0.mk hc8; clear hR hC8 hc8; clear y0 y1 y2; (obtain ⟨ad7, e, u0⟩ := Kd.at_int HR7.out (k : Int) p0 p2); cases e; rw [← HX2.out, Int.toNat_natCast] at u0)
              | (go_at_call 24; (with_reducible refine (cohousingref23_In.calls ki2 A8 c8 l x2 i2 _ HR8.out HC8.out HI2.out).mono ?_); rintro e w10 ⟨rfl, hd⟩; have hb := hd.below; clear hd; replace HB := Aside0.mk (below_step HB.out hb); replace HR0 := Aside0.mk (Kd.C_below HR0.out hb); replace HR1 := Aside0.mk (Kd.C_below HR1.out hb); replace HR2 := Aside0.mk (Kd.C_below HR2.out hb); replace HR3 := Aside0.mk (Kd.C_below HR3.out hb); replace HR5 := Aside0.mk (Kd.C_below HR5.out hb); replace HR6 := Aside0.mk (Kd.C_below HR6.out hb); replace HR7 := Aside0.mk (Kd.C_below HR7.out hb); replace HRW := Aside0.mk (Kd.C_below HRW.out hb); replace HR8 := Aside0.mk (Kd.C_below HR8.out hb); replace K4 := Aside0.mk (blk_below K4.out hb); replace K11 := Aside0.mk (blk_below K11.out hb); clear zK4_0 zK4_1; have zK4_0 : w10.cell? ⟨g4, 0, none⟩ = some (.slice A0 F.length c0) := (blk_cell K4.out 0).trans rfl; have zK4_1 : w10.cell? ⟨g4, 1, none⟩ = some (.slice (some ad) P.length c1) := (blk_cell K4.out 1).trans rfl; clear zK11_0 zK11_1; have zK11_0 : w10.cell? ⟨g11, 0, none⟩ = some (.slice A0 F.length c0) := (blk_cell K11.out 0).trans rfl; have zK11_1 : w10.cell? ⟨g11, 1, none⟩ = some (.slice A5 Q.length c5) := (blk_cell K11.out 1).trans rfl; clear hb; clear u0; (obtain ⟨ad6, e, u1⟩ := Kd.at_int HR6.out (k : Int) p0 p1); cases e; rw [← HX1.out, Int.toNat_natCast] at u1)
              | (go_at_call 24; (with_reducible refine (cohousingref23_In.calls ki1 A8 c8 l x1 i1 _ HR8.out HC8.out HI1.out).mono ?_); rintro e w11 ⟨rfl, hd⟩; have hb := hd.below; clear hd; replace HB := Aside0.mk (below_step HB.out hb); replace HR0 := Aside0.mk (Kd.C_below HR0.out hb); replace HR1 := Aside0.mk (Kd.C_below HR1.out hb); replace HR2 := Aside0.mk (Kd.C_below HR2.out hb); replace HR3 := Aside0.mk (Kd.C_below HR3.out hb); replace HR5 := Aside0.mk (Kd.C_below HR5.out hb); replace HR6 := Aside0.mk (Kd.C_below HR6.out hb); replace HR7 := Aside0.mk (Kd.C_below HR7.out hb); replace HRW := Aside0.mk (Kd.C_below HRW.out hb); replace HR8 := Aside0.mk (Kd.C_below HR8.out hb); replace K4 := Aside0.mk (blk_below K4.out hb); replace K11 := Aside0.mk (blk_below K11.out hb); clear zK4_0 zK4_1; have zK4_0 : w11.cell? ⟨g4, 0, none⟩ = some (.slice A0 F.length c0) := (blk_cell K4.out 0).trans rfl; have zK4_1 : w11.cell? ⟨g4, 1, none⟩ = some (.slice (some ad) P.length c1) := (blk_cell K4.out 1).trans rfl; clear zK11_0 zK11_1; have zK11_0 : w11.cell? ⟨g11, 0, none⟩ = some (.slice A0 F.length c0) := (blk_cell K11.out 0).trans rfl; have zK11_1 : w11.cell? ⟨g11, 1, none⟩ = some (.slice A5 Q.length c5) := (blk_cell K11.out 1).trans rfl; clear hb; clear u1))
            go_ret
            exact ⟨rfl, HB.out⟩
end Go.Proofs.Ytjgnkhfgmpaljaa.P
namespace Go.Proofs.Ytjgnkhfgmpaljaa.P
open Go.RowKit Go.Proofs.YtjgnkhfgmpaljaaW.PrintWords Go.Proofs.YtjgnkhfgmpaljaaW.PrintLast Go.Proofs.YtjgnkhfgmpaljaaW.PrintMore Go.Proofs.Ytjgnkhfgmpaljaa.M
set_option linter.unusedVariables false
set_option linter.unusedSimpArgs false
set_option maxHeartbeats 8000000 in
set_option maxRecDepth 100000 in
theorem cohousinglaw24_TradeOthers.calls (A0 : Option Addr) (c0 : Nat) (F : List S53) (A1 : Option Addr) (c1 : Nat) (P : List S41) (A2 : Option Addr) (c2 : Nat) (ord : List Int) (a : Int) (A3 : Option Addr) (c3 : Nat) (ws : List Int) (w : World)
    (hr0 : Kd.C k53 w A0 F.length F) (hc0 : F.length ≤ c0) (hr1 : Kd.C k41 w A1 P.length P) (hc1 : P.length ≤ c1) (hr2 : Kd.C (Kd.int .i64) w A2 ord.length ord) (hc2 : ord.length ≤ c2) (hr3 : Kd.C (Kd.int .i64) w A3 ws.length ws) (hc3 : ws.length ≤ c3)
    (wm : wf25 ⟨F, P⟩) (wo : wfL ord) (wa : (Lit.int .u8 a).wf = true) (ww : wfL ws) :
    Calls Try.prog 8 #[.agg #[.slice A0 F.length c0, .slice A1 P.length c1], .slice A2 ord.length c2, .int .u8 a, .slice A3 ws.length c3] w fun e w' => e = .returned (.bool true) ∧ Below w.heap.size w w' := by
  have hF : ∀ x ∈ F, okI x.f0 ∧ okI x.f1 := fun x hx => ⟨wfI_okI (wm.1.2 x hx).1, wfI_okI (wm.1.2 x hx).2⟩
  have hP : ∀ p ∈ P, okI p.f1 ∧ ∀ f ∈ p.f2, okI f := fun p hp => ⟨wfI_okI (wm.2.2 p hp).2.1, fun f hf => wfI_okI ((wm.2.2 p hp).2.2.2 f hf)⟩
  have hW : ∀ f ∈ ws, okI f := fun f hf => wfI_okI (ww.2 f hf)
  have hmP : P.length ≤ 9223372036854775807 := by have := wm.2.1; simp only [maxLen] at this; exact this
  have hmW : ws.length ≤ 9223372036854775807 := by have := ww.1; simp only [maxLen] at this; exact this
  obtain ⟨a0, a1⟩ : 0 ≤ a ∧ a ≤ 255 := by
    have h1 : IntKind.u8.min = 0 := by decide
    have h2 : IntKind.u8.max = 255 := by decide
    simp [Lit.wf] at wa; omega
  obtain ⟨ku, hu⟩ := (usable_ev F P ord).rounds
  have HU := Aside0.mk hu
  have HH : Aside0 (cohousinglaw24_head.f = some true) := ⟨rfl⟩
  have hu25 := Try.underlying25
  have hu41 := Try.underlying41
  have HR0 := Aside0.mk hr0
  have HR1 := Aside0.mk hr1
  have HR2 := Aside0.mk hr2
  have HR3 := Aside0.mk hr3
  have HC0 := Aside0.mk hc0
  have HC1 := Aside0.mk hc1
  have HC2 := Aside0.mk hc2
  have HC3 := Aside0.mk hc3
  have HB := Aside0.mk (Below.refl w.heap.size w)
  clear hr0 hr1 hr2 hr3 hc0 hc1 hc2 hc3 wm wo wa ww hu
  cases hu : useR F P ord with
  | false =>
    rw [hu] at HU
    clear hu hF hP hW
    go_enter Try.func8, Try.ntmps8
    go_wp2_with (first
      | ((with_reducible refine gate_dst (N := 4) rfl ?_); refine box_event ?hg (N := 4) ?hd (cs := #[.slice A0 F.length c0, .slice A1 P.length c1]) (t := 25) ?hr ?_; (case hd => rfl); (case hg => rfl); (case hr => first | (go_simp; done) | (go_simp; rfl)); intro g4 hg w1 hbox hb; have Gg4 := Aside0.mk hg; clear hg; replace HB := Aside0.mk (below_step HB.out hb); replace HR0 := Aside0.mk (Kd.C_below HR0.out hb); replace HR1 := Aside0.mk (Kd.C_below HR1.out hb); replace HR2 := Aside0.mk (Kd.C_below HR2.out hb); replace HR3 := Aside0.mk (Kd.C_below HR3.out hb); have K4 := Aside0.mk hbox; clear hbox hb; have zK4_0 : w1.cell? ⟨g4, 0, none⟩ = some (.slice A0 F.length c0) := (blk_cell K4.out 0).trans rfl; have zK4_1 : w1.cell? ⟨g4, 1, none⟩ = some (.slice A1 P.length c1) := (blk_cell K4.out 1).trans rfl)
      | (go_at_call 16; (with_reducible refine (cohousinglaw24_head.calls true _ HH.out).mono ?_); rintro e w2 ⟨rfl, hb⟩; replace HB := Aside0.mk (below_step HB.out hb); replace HR0 := Aside0.mk (Kd.C_below HR0.out hb); replace HR1 := Aside0.mk (Kd.C_below HR1.out hb); replace HR2 := Aside0.mk (Kd.C_below HR2.out hb); replace HR3 := Aside0.mk (Kd.C_below HR3.out hb); replace K4 := Aside0.mk (blk_below K4.out hb); clear zK4_0 zK4_1; have zK4_0 : w2.cell? ⟨g4, 0, none⟩ = some (.slice A0 F.length c0) := (blk_cell K4.out 0).trans rfl; have zK4_1 : w2.cell? ⟨g4, 1, none⟩ = some (.slice A1 P.length c1) := (blk_cell K4.out 1).trans rfl; clear hb)
      | (go_at_call 22; (with_reducible refine (cohousinglaw24_usable.calls ku A0 c0 F A1 c1 P A2 c2 ord false _ HR0.out HC0.out HR1.out HC1.out HR2.out HC2.out HU.out).mono ?_); rintro e w3 ⟨rfl, hb⟩; replace HB := Aside0.mk (below_step HB.out hb); replace HR0 := Aside0.mk (Kd.C_below HR0.out hb); replace HR1 := Aside0.mk (Kd.C_below HR1.out hb); replace HR2 := Aside0.mk (Kd.C_below HR2.out hb); replace HR3 := Aside0.mk (Kd.C_below HR3.out hb); replace K4 := Aside0.mk (blk_below K4.out hb); clear zK4_0 zK4_1; have zK4_0 : w3.cell? ⟨g4, 0, none⟩ = some (.slice A0 F.length c0) := (blk_cell K4.out 0).trans rfl; have zK4_1 : w3.cell? ⟨g4, 1, none⟩ = some (.slice A1 P.length c1) := (blk_cell K4.out 1).trans rfl; clear hb))
    go_ret
    exact ⟨rfl, HB.out⟩
  | true =>
    rw [hu] at HU
    obtain ⟨hb, hi, hfine⟩ := use_fine hu hF hP
    have hP20 : P.length ≤ 1000 := by have := hfine.n; omega
    have hF20 : F.length ≤ 20 := by unfold useR at hu; rw [Bool.and_eq_true] at hu; exact (fewR_iff.1 hu.1).1
    clear hu
    by_cases hz : P.length = 0
    · have q0 : ((P.length : Int) == 0) = true := by simpa using hz
      clear hb hi hfine hF hP hW hP20 hz
      go_enter Try.func8, Try.ntmps8
      go_wp2_with (first
        | ((with_reducible refine gate_dst (N := 4) rfl ?_); refine box_event ?hg (N := 4) ?hd (cs := #[.slice A0 F.length c0, .slice A1 P.length c1]) (t := 25) ?hr ?_; (case hd => rfl); (case hg => rfl); (case hr => first | (go_simp; done) | (go_simp; rfl)); intro g4 hg w1 hbox hb; have Gg4 := Aside0.mk hg; clear hg; replace HB := Aside0.mk (below_step HB.out hb); replace HR0 := Aside0.mk (Kd.C_below HR0.out hb); replace HR1 := Aside0.mk (Kd.C_below HR1.out hb); replace HR2 := Aside0.mk (Kd.C_below HR2.out hb); replace HR3 := Aside0.mk (Kd.C_below HR3.out hb); have K4 := Aside0.mk hbox; clear hbox hb; have zK4_0 : w1.cell? ⟨g4, 0, none⟩ = some (.slice A0 F.length c0) := (blk_cell K4.out 0).trans rfl; have zK4_1 : w1.cell? ⟨g4, 1, none⟩ = some (.slice A1 P.length c1) := (blk_cell K4.out 1).trans rfl)
        | (go_at_call 16; (with_reducible refine (cohousinglaw24_head.calls true _ HH.out).mono ?_); rintro e w2 ⟨rfl, hb⟩; replace HB := Aside0.mk (below_step HB.out hb); replace HR0 := Aside0.mk (Kd.C_below HR0.out hb); replace HR1 := Aside0.mk (Kd.C_below HR1.out hb); replace HR2 := Aside0.mk (Kd.C_below HR2.out hb); replace HR3 := Aside0.mk (Kd.C_below HR3.out hb); replace K4 := Aside0.mk (blk_below K4.out hb); clear zK4_0 zK4_1; have zK4_0 : w2.cell? ⟨g4, 0, none⟩ = some (.slice A0 F.length c0) := (blk_cell K4.out 0).trans rfl; have zK4_1 : w2.cell? ⟨g4, 1, none⟩ = some (.slice A1 P.length c1) := (blk_cell K4.out 1).trans rfl; clear hb)
        | (go_at_call 22; (with_reducible refine (cohousinglaw24_usable.calls ku A0 c0 F A1 c1 P A2 c2 ord true _ HR0.out HC0.out HR1.out HC1.out HR2.out HC2.out HU.out).mono ?_); rintro e w3 ⟨rfl, hb⟩; replace HB := Aside0.mk (below_step HB.out hb); replace HR0 := Aside0.mk (Kd.C_below HR0.out hb); replace HR1 := Aside0.mk (Kd.C_below HR1.out hb); replace HR2 := Aside0.mk (Kd.C_below HR2.out hb); replace HR3 := Aside0.mk (Kd.C_below HR3.out hb); replace K4 := Aside0.mk (blk_below K4.out hb); clear zK4_0 zK4_1; have zK4_0 : w3.cell? ⟨g4, 0, none⟩ = some (.slice A0 F.length c0) := (blk_cell K4.out 0).trans rfl; have zK4_1 : w3.cell? ⟨g4, 1, none⟩ = some (.slice A1 P.length c1) := (blk_cell K4.out 1).trans rfl; clear hb))
      go_ret
      exact ⟨rfl, HB.out⟩
    · have q0 : ((P.length : Int) == 0) = false := by simpa using hz
      by_cases hw : 30 < ws.length
      · have q1 : decide ((30 : Int) < (ws.length : Int)) = true := decide_eq_true (by omega)
        clear hb hi hfine hF hP hW hP20 hw hz
        go_enter Try.func8, Try.ntmps8
        go_wp2_with (first
          | ((with_reducible refine gate_dst (N := 4) rfl ?_); refine box_event ?hg (N := 4) ?hd (cs := #[.slice A0 F.length c0, .slice A1 P.length c1]) (t := 25) ?hr ?_; (case hd => rfl); (case hg => rfl); (case hr => first | (go_simp; done) | (go_simp; rfl)); intro g4 hg w1 hbox hb; have Gg4 := Aside0.mk hg; clear hg; replace HB := Aside0.mk (below_step HB.out hb); replace HR0 := Aside0.mk (Kd.C_below HR0.out hb); replace HR1 := Aside0.mk (Kd.C_below HR1.out hb); replace HR2 := Aside0.mk (Kd.C_below HR2.out hb); replace HR3 := Aside0.mk (Kd.C_below HR3.out hb); have K4 := Aside0.mk hbox; clear hbox hb; have zK4_0 : w1.cell? ⟨g4, 0, none⟩ = some (.slice A0 F.length c0) := (blk_cell K4.out 0).trans rfl; have zK4_1 : w1.cell? ⟨g4, 1, none⟩ = some (.slice A1 P.length c1) := (blk_cell K4.out 1).trans rfl)
          | (go_at_call 16; (with_reducible refine (cohousinglaw24_head.calls true _ HH.out).mono ?_); rintro e w2 ⟨rfl, hb⟩; replace HB := Aside0.mk (below_step HB.out hb); replace HR0 := Aside0.mk (Kd.C_below HR0.out hb); replace HR1 := Aside0.mk (Kd.C_below HR1.out hb); replace HR2 := Aside0.mk (Kd.C_below HR2.out hb); replace HR3 := Aside0.mk (Kd.C_below HR3.out hb); replace K4 := Aside0.mk (blk_below K4.out hb); clear zK4_0 zK4_1; have zK4_0 : w2.cell? ⟨g4, 0, none⟩ = some (.slice A0 F.length c0) := (blk_cell K4.out 0).trans rfl; have zK4_1 : w2.cell? ⟨g4, 1, none⟩ = some (.slice A1 P.length c1) := (blk_cell K4.out 1).trans rfl; clear hb)
          | (go_at_call 22; (with_reducible refine (cohousinglaw24_usable.calls ku A0 c0 F A1 c1 P A2 c2 ord true _ HR0.out HC0.out HR1.out HC1.out HR2.out HC2.out HU.out).mono ?_); rintro e w3 ⟨rfl, hb⟩; replace HB := Aside0.mk (below_step HB.out hb); replace HR0 := Aside0.mk (Kd.C_below HR0.out hb); replace HR1 := Aside0.mk (Kd.C_below HR1.out hb); replace HR2 := Aside0.mk (Kd.C_below HR2.out hb); replace HR3 := Aside0.mk (Kd.C_below HR3.out hb); replace K4 := Aside0.mk (blk_below K4.out hb); clear zK4_0 zK4_1; have zK4_0 : w3.cell? ⟨g4, 0, none⟩ = some (.slice A0 F.length c0) := (blk_cell K4.out 0).trans rfl; have zK4_1 : w3.cell? ⟨g4, 1, none⟩ = some (.slice A1 P.length c1) := (blk_cell K4.out 1).trans rfl; clear hb))
        go_ret
        exact ⟨rfl, HB.out⟩
      · have q1 : decide ((30 : Int) < (ws.length : Int)) = false := decide_eq_false (by omega)
        obtain ⟨k, hk, hka⟩ : ∃ k : Nat, k < P.length ∧ (k : Int) = a % (P.length : Int) := ⟨a.toNat % P.length, Nat.mod_lt _ (by omega), by rw [Int.natCast_emod, Int.toNat_of_nonneg a0]⟩
        have e1 : a % (P.length : Int) = (k : Int) := hka.symm
        have e2 : a.tmod (P.length : Int) = (k : Int) := by rw [Int.tmod_eq_emod_of_nonneg a0]; exact e1
        have e3 : (wrap64 a).tmod (P.length : Int) = (k : Int) := by rw [show wrap64 a = a from by unfold wrap64; omega]; exact e2
        clear hka
        obtain ⟨Q, hQ⟩ : ∃ Q, Q = lieP P k ws := ⟨_, rfl⟩
        have HQ := Aside0.mk hQ
        have hQl : Q.length = P.length := by rw [hQ]; exact lie_len
        obtain ⟨kv, hv⟩ := (valid_ev F Q (by omega) (by have := hfine.n; omega) (fun p hp => by
          rw [hQ] at hp
          rcases List.mem_or_eq_of_mem_set hp with hp | rfl
          · have := (hfine.ok p hp).1; omega
          · show ws.length ≤ 1000000; omega)).rounds
        have HV := Aside0.mk hv
        clear hv
        cases hvb : validG F Q with
        | false =>
          rw [hvb] at HV
          clear hvb hb hi hfine hF hP hW hQ hQl hw hz a0 a1
          go_enter Try.func8, Try.ntmps8
          go_wp2_with (first
            | ((with_reducible refine gate_dst (N := 4) rfl ?_); refine box_event ?hg (N := 4) ?hd (cs := #[.slice A0 F.length c0, .slice A1 P.length c1]) (t := 25) ?hr ?_; (case hd => rfl); (case hg => rfl); (case hr => first | (go_simp; done) | (go_simp; rfl)); intro g4 hg w1 hbox hb; have Gg4 := Aside0.mk hg; clear hg; replace HB := Aside0.mk (below_step HB.out hb); replace HR0 := Aside0.mk (Kd.C_below HR0.out hb); replace HR1 := Aside0.mk (Kd.C_below HR1.out hb); replace HR2 := Aside0.mk (Kd.C_below HR2.out hb); replace HR3 := Aside0.mk (Kd.C_below HR3.out hb); have K4 := Aside0.mk hbox; clear hbox hb; have zK4_0 : w1.cell? ⟨g4, 0, none⟩ = some (.slice A0 F.length c0) := (blk_cell K4.out 0).trans rfl; have zK4_1 : w1.cell? ⟨g4, 1, none⟩ = some (.slice A1 P.length c1) := (blk_cell K4.out 1).trans rfl)
            | (go_at_call 16; (with_reducible refine (cohousinglaw24_head.calls true _ HH.out).mono ?_); rintro e w2 ⟨rfl, hb⟩; replace HB := Aside0.mk (below_step HB.out hb); replace HR0 := Aside0.mk (Kd.C_below HR0.out hb); replace HR1 := Aside0.mk (Kd.C_below HR1.out hb); replace HR2 := Aside0.mk (Kd.C_below HR2.out hb); replace HR3 := Aside0.mk (Kd.C_below HR3.out hb); replace K4 := Aside0.mk (blk_below K4.out hb); clear zK4_0 zK4_1; have zK4_0 : w2.cell? ⟨g4, 0, none⟩ = some (.slice A0 F.length c0) := (blk_cell K4.out 0).trans rfl; have zK4_1 : w2.cell? ⟨g4, 1, none⟩ = some (.slice A1 P.length c1) := (blk_cell K4.out 1).trans rfl; clear hb)
            | (go_at_call 22; (with_reducible refine (cohousinglaw24_usable.calls ku A0 c0 F A1 c1 P A2 c2 ord true _ HR0.out HC0.out HR1.out HC1.out HR2.out HC2.out HU.out).mono ?_); rintro e w3 ⟨rfl, hb⟩; replace HB := Aside0.mk (below_step HB.out hb); replace HR0 := Aside0.mk (Kd.C_below HR0.out hb); replace HR1 := Aside0.mk (Kd.C_below HR1.out hb); replace HR2 := Aside0.mk (Kd.C_below HR2.out hb); replace HR3 := Aside0.mk (Kd.C_below HR3.out hb); replace K4 := Aside0.mk (blk_below K4.out hb); clear zK4_0 zK4_1; have zK4_0 : w3.cell? ⟨g4, 0, none⟩ = some (.slice A0 F.length c0) := (blk_cell K4.out 0).trans rfl; have zK4_1 : w3.cell? ⟨g4, 1, none⟩ = some (.slice A1 P.length c1) := (blk_cell K4.out 1).trans rfl; clear hb)
            | (go_at_call 28; (with_reducible refine (lied_calls A0 c0 F.length A1 c1 P k A3 c3 ws Q HQ.out _ HR1.out HC1.out HR3.out HC3.out hk hP20).mono ?_); rintro e w4 ⟨A5, c5, rfl, hc5, hC5, hb⟩; replace HB := Aside0.mk (below_step HB.out hb); replace HR0 := Aside0.mk (Kd.C_below HR0.out hb); replace HR1 := Aside0.mk (Kd.C_below HR1.out hb); replace HR2 := Aside0.mk (Kd.C_below HR2.out hb); replace HR3 := Aside0.mk (Kd.C_below HR3.out hb); replace K4 := Aside0.mk (blk_below K4.out hb); clear zK4_0 zK4_1; have zK4_0 : w4.cell? ⟨g4, 0, none⟩ = some (.slice A0 F.length c0) := (blk_cell K4.out 0).trans rfl; have zK4_1 : w4.cell? ⟨g4, 1, none⟩ = some (.slice A1 P.length c1) := (blk_cell K4.out 1).trans rfl; clear hb; have HR5 := Aside0.mk hC5; have HC5 := Aside0.mk hc5; clear hC5 hc5)
            | (go_at_call 29; have hb := below_alloc (Below.refl w4.heap.size w4) (.cells #[.slice A0 F.length c0, .slice A5 Q.length c5] 25 (0, 0)); have K11 := Aside0.mk (blk_new w4 (.cells #[.slice A0 F.length c0, .slice A5 Q.length c5] 25 (0, 0))); (obtain ⟨w5, hw5⟩ : ∃ x, x = w4.alloc (.cells #[.slice A0 F.length c0, .slice A5 Q.length c5] 25 (0, 0)) := ⟨_, rfl⟩); (obtain ⟨g11, hg11⟩ : ∃ x, x = w4.heap.size := ⟨_, rfl⟩); rw [← hw5, ← hg11] at K11; rw [← hw5] at hb; replace HB := Aside0.mk (below_step HB.out hb); replace HR0 := Aside0.mk (Kd.C_below HR0.out hb); replace HR1 := Aside0.mk (Kd.C_below HR1.out hb); replace HR2 := Aside0.mk (Kd.C_below HR2.out hb); replace HR3 := Aside0.mk (Kd.C_below HR3.out hb); replace HR5 := Aside0.mk (Kd.C_below HR5.out hb); replace K4 := Aside0.mk (blk_below K4.out hb); clear hb; clear zK4_0 zK4_1; have zK4_0 : w5.cell? ⟨g4, 0, none⟩ = some (.slice A0 F.length c0) := (blk_cell K4.out 0).trans rfl; have zK4_1 : w5.cell? ⟨g4, 1, none⟩ = some (.slice A1 P.length c1) := (blk_cell K4.out 1).trans rfl; have zK11_0 : w5.cell? ⟨g11, 0, none⟩ = some (.slice A0 F.length c0) := (blk_cell K11.out 0).trans rfl; have zK11_1 : w5.cell? ⟨g11, 1, none⟩ = some (.slice A5 Q.length c5) := (blk_cell K11.out 1).trans rfl; (simp only [← hw5, ← hg11]); clear hw5 hg11; (with_reducible refine (cohousingref23_Valid.calls kv A0 c0 F A5 c5 Q false _ HR0.out HC0.out HR5.out HC5.out HV.out).mono ?_); rintro e w6 ⟨rfl, hb⟩; replace HB := Aside0.mk (below_step HB.out hb); replace HR0 := Aside0.mk (Kd.C_below HR0.out hb); replace HR1 := Aside0.mk (Kd.C_below HR1.out hb); replace HR2 := Aside0.mk (Kd.C_below HR2.out hb); replace HR3 := Aside0.mk (Kd.C_below HR3.out hb); replace HR5 := Aside0.mk (Kd.C_below HR5.out hb); replace K4 := Aside0.mk (blk_below K4.out hb); replace K11 := Aside0.mk (blk_below K11.out hb); clear zK4_0 zK4_1; have zK4_0 : w6.cell? ⟨g4, 0, none⟩ = some (.slice A0 F.length c0) := (blk_cell K4.out 0).trans rfl; have zK4_1 : w6.cell? ⟨g4, 1, none⟩ = some (.slice A1 P.length c1) := (blk_cell K4.out 1).trans rfl; clear zK11_0 zK11_1; have zK11_0 : w6.cell? ⟨g11, 0, none⟩ = some (.slice A0 F.length c0) := (blk_cell K11.out 0).trans rfl; have zK11_1 : w6.cell? ⟨g11, 1, none⟩ = some (.slice A5 Q.length c5) := (blk_cell K11.out 1).trans rfl; clear hb))
          go_ret
          exact ⟨rfl, HB.out⟩
        | true =>
          rw [hvb] at HV
          have hbQ : okB F Q ord = true := by
            unfold okB at hb ⊢
            rw [Bool.and_eq_true] at hb ⊢
            rw [hQl]
            exact ⟨hvb, hb.2⟩
          have hfQ : Fine Q ord := by rw [hQ] at hbQ ⊢; exact lie_fine hfine hk hbQ (by omega) hW
          have hiQ : okIn F Q ord = true := okIn_iff.2 ⟨hfQ.n, (okIn_iff.1 hi).2.1, hF, hfQ.ok⟩
          obtain ⟨htl, hg⟩ := gets hfine
          obtain ⟨htl2, hg2⟩ := gets hfQ
          obtain ⟨ks, hs1⟩ := (solved_ev hi hb htl).rounds
          obtain ⟨ks2, hs2⟩ := (solved_ev hiQ hbQ htl2).rounds
          have HS1 := Aside0.mk hs1
          have HS2 := Aside0.mk hs2
          have HT := Aside0.mk (And.intro hfine (And.intro hfQ (And.intro hg hg2)))
          have hl1 := htl
          have hl2 : (finalG Q ord).tos.length = P.length := htl2.trans hQl
          clear hs1 hs2 hvb hb hi hF hP hW hbQ hiQ htl htl2 hw hz a0 a1 hg hg2
          have hlaw : rd (finalG P ord).tos (k : Int) = rd (finalG Q ord).tos (k : Int) → (finalG P ord).tos = (finalG Q ord).tos := by
            rw [hQ] at hfQ ⊢
            exact lie_others hfine hfQ hk
          clear hfQ hfine hQ HT
          have hT20 : (finalG P ord).tos.length ≤ 1000000 := by omega
          generalize (finalG P ord).tos = T1 at *
          generalize (finalG Q ord).tos = T2 at *
          obtain ⟨kq, hq⟩ := (sameInts_ev T1 T2 hT20).rounds
          have HQ2 := Aside0.mk hq
          obtain ⟨x1, hx1⟩ : ∃ x, x = rd T1 (k : Int) := ⟨_, rfl⟩
          obtain ⟨x2, hx2⟩ : ∃ x, x = rd T2 (k : Int) := ⟨_, rfl⟩
          rw [← hx1, ← hx2] at hlaw
          have HX1 := Aside0.mk hx1
          have HX2 := Aside0.mk hx2
          clear hx1 hx2 hq hT20
          have p0 : (0 : Int) ≤ (k : Int) := Int.natCast_nonneg k
          have p1 : (k : Int) < (T1.length : Int) := by omega
          have p2 : (k : Int) < (T2.length : Int) := by omega
          clear hQl
          have HL1 := Aside0.mk hl1
          have HL2 := Aside0.mk hl2
          clear hl1 hl2
          by_cases hne : x1 = x2
          · have hT := hlaw hne
            have HQ3 : Aside0 (cohousingref23_SameInts.f kq T1 T2 = some true) := ⟨by rw [HQ2.out, decide_eq_true hT]⟩
            have r0 : (x1 != x2) = false := by simp [hne]
            clear hlaw hne hT HQ2
            go_enter Try.func8, Try.ntmps8
            go_wp2_with (first
              | ((with_reducible refine gate_dst (N := 4) rfl ?_); refine box_event ?hg (N := 4) ?hd (cs := #[.slice A0 F.length c0, .slice A1 P.length c1]) (t := 25) ?hr ?_; (case hd => rfl); (case hg => rfl); (case hr => first | (go_simp; done) | (go_simp; rfl)); intro g4 hg w1 hbox hb; have Gg4 := Aside0.mk hg; clear hg; replace HB := Aside0.mk (below_step HB.out hb); replace HR0 := Aside0.mk (Kd.C_below HR0.out hb); replace HR1 := Aside0.mk (Kd.C_below HR1.out hb); replace HR2 := Aside0.mk (Kd.C_below HR2.out hb); replace HR3 := Aside0.mk (Kd.C_below HR3.out hb); have K4 := Aside0.mk hbox; clear hbox hb; have zK4_0 : w1.cell? ⟨g4, 0, none⟩ = some (.slice A0 F.length c0) := (blk_cell K4.out 0).trans rfl; have zK4_1 : w1.cell? ⟨g4, 1, none⟩ = some (.slice A1 P.length c1) := (blk_cell K4.out 1).trans rfl)
              | (go_at_call 16; (with_reducible refine (cohousinglaw24_head.calls true _ HH.out).mono ?_); rintro e w2 ⟨rfl, hb⟩; replace HB := Aside0.mk (below_step HB.out hb); replace HR0 := Aside0.mk (Kd.C_below HR0.out hb); replace HR1 := Aside0.mk (Kd.C_below HR1.out hb); replace HR2 := Aside0.mk (Kd.C_below HR2.out hb); replace HR3 := Aside0.mk (Kd.C_below HR3.out hb); replace K4 := Aside0.mk (blk_below K4.out hb); clear zK4_0 zK4_1; have zK4_0 : w2.cell? ⟨g4, 0, none⟩ = some (.slice A0 F.length c0) := (blk_cell K4.out 0).trans rfl; have zK4_1 : w2.cell? ⟨g4, 1, none⟩ = some (.slice A1 P.length c1) := (blk_cell K4.out 1).trans rfl; clear hb)
              | (go_at_call 22; (with_reducible refine (cohousinglaw24_usable.calls ku A0 c0 F A1 c1 P A2 c2 ord true _ HR0.out HC0.out HR1.out HC1.out HR2.out HC2.out HU.out).mono ?_); rintro e w3 ⟨rfl, hb⟩; replace HB := Aside0.mk (below_step HB.out hb); replace HR0 := Aside0.mk (Kd.C_below HR0.out hb); replace HR1 := Aside0.mk (Kd.C_below HR1.out hb); replace HR2 := Aside0.mk (Kd.C_below HR2.out hb); replace HR3 := Aside0.mk (Kd.C_below HR3.out hb); replace K4 := Aside0.mk (blk_below K4.out hb); clear zK4_0 zK4_1; have zK4_0 : w3.cell? ⟨g4, 0, none⟩ = some (.slice A0 F.length c0) := (blk_cell K4.out 0).trans rfl; have zK4_1 : w3.cell? ⟨g4, 1, none⟩ = some (.slice A1 P.length c1) := (blk_cell K4.out 1).trans rfl; clear hb)
              | (go_at_call 28; (with_reducible refine (lied_calls A0 c0 F.length A1 c1 P k A3 c3 ws Q HQ.out _ HR1.out HC1.out HR3.out HC3.out hk hP20).mono ?_); rintro e w4 ⟨A5, c5, rfl, hc5, hC5, hb⟩; replace HB := Aside0.mk (below_step HB.out hb); replace HR0 := Aside0.mk (Kd.C_below HR0.out hb); replace HR1 := Aside0.mk (Kd.C_below HR1.out hb); replace HR2 := Aside0.mk (Kd.C_below HR2.out hb); replace HR3 := Aside0.mk (Kd.C_below HR3.out hb); replace K4 := Aside0.mk (blk_below K4.out hb); clear zK4_0 zK4_1; have zK4_0 : w4.cell? ⟨g4, 0, none⟩ = some (.slice A0 F.length c0) := (blk_cell K4.out 0).trans rfl; have zK4_1 : w4.cell? ⟨g4, 1, none⟩ = some (.slice A1 P.length c1) := (blk_cell K4.out 1).trans rfl; clear hb; have HR5 := Aside0.mk hC5; have HC5 := Aside0.mk hc5; clear hC5 hc5)
              | (go_at_call 29; have hb := below_alloc (Below.refl w4.heap.size w4) (.cells #[.slice A0 F.length c0, .slice A5 Q.length c5] 25 (0, 0)); have K11 := Aside0.mk (blk_new w4 (.cells #[.slice A0 F.length c0, .slice A5 Q.length c5] 25 (0, 0))); (obtain ⟨w5, hw5⟩ : ∃ x, x = w4.alloc (.cells #[.slice A0 F.length c0, .slice A5 Q.length c5] 25 (0, 0)) := ⟨_, rfl⟩); (obtain ⟨g11, hg11⟩ : ∃ x, x = w4.heap.size := ⟨_, rfl⟩); rw [← hw5, ← hg11] at K11; rw [← hw5] at hb; replace HB := Aside0.mk (below_step HB.out hb); replace HR0 := Aside0.mk (Kd.C_below HR0.out hb); replace HR1 := Aside0.mk (Kd.C_below HR1.out hb); replace HR2 := Aside0.mk (Kd.C_below HR2.out hb); replace HR3 := Aside0.mk (Kd.C_below HR3.out hb); replace HR5 := Aside0.mk (Kd.C_below HR5.out hb); replace K4 := Aside0.mk (blk_below K4.out hb); clear hb; clear zK4_0 zK4_1; have zK4_0 : w5.cell? ⟨g4, 0, none⟩ = some (.slice A0 F.length c0) := (blk_cell K4.out 0).trans rfl; have zK4_1 : w5.cell? ⟨g4, 1, none⟩ = some (.slice A1 P.length c1) := (blk_cell K4.out 1).trans rfl; have zK11_0 : w5.cell? ⟨g11, 0, none⟩ = some (.slice A0 F.length c0) := (blk_cell K11.out 0).trans rfl; have zK11_1 : w5.cell? ⟨g11, 1, none⟩ = some (.slice A5 Q.length c5) := (blk_cell K11.out 1).trans rfl; (simp only [← hw5, ← hg11]); clear hw5 hg11; (with_reducible refine (cohousingref23_Valid.calls kv A0 c0 F A5 c5 Q true _ HR0.out HC0.out HR5.out HC5.out HV.out).mono ?_); rintro e w6 ⟨rfl, hb⟩; replace HB := Aside0.mk (below_step HB.out hb); replace HR0 := Aside0.mk (Kd.C_below HR0.out hb); replace HR1 := Aside0.mk (Kd.C_below HR1.out hb); replace HR2 := Aside0.mk (Kd.C_below HR2.out hb); replace HR3 := Aside0.mk (Kd.C_below HR3.out hb); replace HR5 := Aside0.mk (Kd.C_below HR5.out hb); replace K4 := Aside0.mk (blk_below K4.out hb); replace K11 := Aside0.mk (blk_below K11.out hb); clear zK4_0 zK4_1; have zK4_0 : w6.cell? ⟨g4, 0, none⟩ = some (.slice A0 F.length c0) := (blk_cell K4.out 0).trans rfl; have zK4_1 : w6.cell? ⟨g4, 1, none⟩ = some (.slice A1 P.length c1) := (blk_cell K4.out 1).trans rfl; clear zK11_0 zK11_1; have zK11_0 : w6.cell? ⟨g11, 0, none⟩ = some (.slice A0 F.length c0) := (blk_cell K11.out 0).trans rfl; have zK11_1 : w6.cell? ⟨g11, 1, none⟩ = some (.slice A5 Q.length c5) := (blk_cell K11.out 1).trans rfl; clear hb)
              | (go_at_call 27; (with_reducible refine (cohousinglaw24_solved.calls ks A0 c0 F A1 c1 P A2 c2 ord T1 true _ HR0.out HC0.out HR1.out HC1.out HR2.out HC2.out HS1.out).mono ?_); rintro e w7 ⟨v6, rfl, hR, hb⟩; replace HB := Aside0.mk (below_step HB.out hb); replace HR0 := Aside0.mk (Kd.C_below HR0.out hb); replace HR1 := Aside0.mk (Kd.C_below HR1.out hb); replace HR2 := Aside0.mk (Kd.C_below HR2.out hb); replace HR3 := Aside0.mk (Kd.C_below HR3.out hb); replace HR5 := Aside0.mk (Kd.C_below HR5.out hb); replace K4 := Aside0.mk (blk_below K4.out hb); replace K11 := Aside0.mk (blk_below K11.out hb); clear zK4_0 zK4_1; have zK4_0 : w7.cell? ⟨g4, 0, none⟩ = some (.slice A0 F.length c0) := (blk_cell K4.out 0).trans rfl; have zK4_1 : w7.cell? ⟨g4, 1, none⟩ = some (.slice A1 P.length c1) := (blk_cell K4.out 1).trans rfl; clear zK11_0 zK11_1; have zK11_0 : w7.cell? ⟨g11, 0, none⟩ = some (.slice A0 F.length c0) := (blk_cell K11.out 0).trans rfl; have zK11_1 : w7.cell? ⟨g11, 1, none⟩ = some (.slice A5 Q.length c5) := (blk_cell K11.out 1).trans rfl; clear hb; (obtain ⟨A6, c6, rfl, hc6, hC6⟩ := Kd.R_reads hR); have HR6 := Aside0.mk hC6; have HC6 := Aside0.mk hc6; clear hR hC6 hc6)
              | (go_at_call 27; (with_reducible refine (cohousinglaw24_solved.calls ks2 A0 c0 F A5 c5 Q A2 c2 ord T2 true _ HR0.out HC0.out HR5.out HC5.out HR2.out HC2.out HS2.out).mono ?_); rintro e w8 ⟨v7, rfl, hR, hb⟩; replace HB := Aside0.mk (below_step HB.out hb); replace HR0 := Aside0.mk (Kd.C_below HR0.out hb); replace HR1 := Aside0.mk (Kd.C_below HR1.out hb); replace HR2 := Aside0.mk (Kd.C_below HR2.out hb); replace HR3 := Aside0.mk (Kd.C_below HR3.out hb); replace HR5 := Aside0.mk (Kd.C_below HR5.out hb); replace HR6 := Aside0.mk (Kd.C_below HR6.out hb); replace K4 := Aside0.mk (blk_below K4.out hb); replace K11 := Aside0.mk (blk_below K11.out hb); clear zK4_0 zK4_1; have zK4_0 : w8.cell? ⟨g4, 0, none⟩ = some (.slice A0 F.length c0) := (blk_cell K4.out 0).trans rfl; have zK4_1 : w8.cell? ⟨g4, 1, none⟩ = some (.slice A1 P.length c1) := (blk_cell K4.out 1).trans rfl; clear zK11_0 zK11_1; have zK11_0 : w8.cell? ⟨g11, 0, none⟩ = some (.slice A0 F.length c0) := (blk_cell K11.out 0).trans rfl; have zK11_1 : w8.cell? ⟨g11, 1, none⟩ = some (.slice A5 Q.length c5) := (blk_cell K11.out 1).trans rfl; clear hb; (obtain ⟨A7, c7, rfl, hc7, hC7⟩ := Kd.R_reads hR); have HR7 := Aside0.mk hC7; have HC7 := Aside0.mk hc7; clear hR hC7 hc7; (obtain ⟨ad6, e, u1⟩ := Kd.at_int HR6.out (k : Int) p0 p1); cases e; rw [← HX1.out, Int.toNat_natCast] at u1; (obtain ⟨ad7, e, u2⟩ := Kd.at_int HR7.out (k : Int) p0 p2); cases e; rw [← HX2.out, Int.toNat_natCast] at u2))
            go_quiet ((go_at_call 30; (with_reducible refine (cohousingref23_SameInts.calls kq (some ad6) c6 T1 (some ad7) c7 T2 true _ (Kd.C_drewN HR6.out _) HC6.out (Kd.C_drewN HR7.out _) HC7.out HQ3.out).mono ?_); rintro e w' ⟨rfl, ⟨nd, rfl⟩⟩; exact ⟨rfl, _, World.drewN_drewN _ _ _⟩))
            go_wp2
            go_ret
            exact ⟨rfl, pw_below_drewN HB.out _⟩
          · have r0 : (x1 != x2) = true := by simpa using hne
            clear hlaw hne HQ2
            go_enter Try.func8, Try.ntmps8
            go_wp2_with (first
              | ((with_reducible refine gate_dst (N := 4) rfl ?_); refine box_event ?hg (N := 4) ?hd (cs := #[.slice A0 F.length c0, .slice A1 P.length c1]) (t := 25) ?hr ?_; (case hd => rfl); (case hg => rfl); (case hr => first | (go_simp; done) | (go_simp; rfl)); intro g4 hg w1 hbox hb; have Gg4 := Aside0.mk hg; clear hg; replace HB := Aside0.mk (below_step HB.out hb); replace HR0 := Aside0.mk (Kd.C_below HR0.out hb); replace HR1 := Aside0.mk (Kd.C_below HR1.out hb); replace HR2 := Aside0.mk (Kd.C_below HR2.out hb); replace HR3 := Aside0.mk (Kd.C_below HR3.out hb); have K4 := Aside0.mk hbox; clear hbox hb; have zK4_0 : w1.cell? ⟨g4, 0, none⟩ = some (.slice A0 F.length c0) := (blk_cell K4.out 0).trans rfl; have zK4_1 : w1.cell? ⟨g4, 1, none⟩ = some (.slice A1 P.length c1) := (blk_cell K4.out 1).trans rfl)
              | (go_at_call 16; (with_reducible refine (cohousinglaw24_head.calls true _ HH.out).mono ?_); rintro e w2 ⟨rfl, hb⟩; replace HB := Aside0.mk (below_step HB.out hb); replace HR0 := Aside0.mk (Kd.C_below HR0.out hb); replace HR1 := Aside0.mk (Kd.C_below HR1.out hb); replace HR2 := Aside0.mk (Kd.C_below HR2.out hb); replace HR3 := Aside0.mk (Kd.C_below HR3.out hb); replace K4 := Aside0.mk (blk_below K4.out hb); clear zK4_0 zK4_1; have zK4_0 : w2.cell? ⟨g4, 0, none⟩ = some (.slice A0 F.length c0) := (blk_cell K4.out 0).trans rfl; have zK4_1 : w2.cell? ⟨g4, 1, none⟩ = some (.slice A1 P.length c1) := (blk_cell K4.out 1).trans rfl; clear hb)
              | (go_at_call 22; (with_reducible refine (cohousinglaw24_usable.calls ku A0 c0 F A1 c1 P A2 c2 ord true _ HR0.out HC0.out HR1.out HC1.out HR2.out HC2.out HU.out).mono ?_); rintro e w3 ⟨rfl, hb⟩; replace HB := Aside0.mk (below_step HB.out hb); replace HR0 := Aside0.mk (Kd.C_below HR0.out hb); replace HR1 := Aside0.mk (Kd.C_below HR1.out hb); replace HR2 := Aside0.mk (Kd.C_below HR2.out hb); replace HR3 := Aside0.mk (Kd.C_below HR3.out hb); replace K4 := Aside0.mk (blk_below K4.out hb); clear zK4_0 zK4_1; have zK4_0 : w3.cell? ⟨g4, 0, none⟩ = some (.slice A0 F.length c0) := (blk_cell K4.out 0).trans rfl; have zK4_1 : w3.cell? ⟨g4, 1, none⟩ = some (.slice A1 P.length c1) := (blk_cell K4.out 1).trans rfl; clear hb)
              | (go_at_call 28; (with_reducible refine (lied_calls A0 c0 F.length A1 c1 P k A3 c3 ws Q HQ.out _ HR1.out HC1.out HR3.out HC3.out hk hP20).mono ?_); rintro e w4 ⟨A5, c5, rfl, hc5, hC5, hb⟩; replace HB := Aside0.mk (below_step HB.out hb); replace HR0 := Aside0.mk (Kd.C_below HR0.out hb); replace HR1 := Aside0.mk (Kd.C_below HR1.out hb); replace HR2 := Aside0.mk (Kd.C_below HR2.out hb); replace HR3 := Aside0.mk (Kd.C_below HR3.out hb); replace K4 := Aside0.mk (blk_below K4.out hb); clear zK4_0 zK4_1; have zK4_0 : w4.cell? ⟨g4, 0, none⟩ = some (.slice A0 F.length c0) := (blk_cell K4.out 0).trans rfl; have zK4_1 : w4.cell? ⟨g4, 1, none⟩ = some (.slice A1 P.length c1) := (blk_cell K4.out 1).trans rfl; clear hb; have HR5 := Aside0.mk hC5; have HC5 := Aside0.mk hc5; clear hC5 hc5)
              | (go_at_call 29; have hb := below_alloc (Below.refl w4.heap.size w4) (.cells #[.slice A0 F.length c0, .slice A5 Q.length c5] 25 (0, 0)); have K11 := Aside0.mk (blk_new w4 (.cells #[.slice A0 F.length c0, .slice A5 Q.length c5] 25 (0, 0))); (obtain ⟨w5, hw5⟩ : ∃ x, x = w4.alloc (.cells #[.slice A0 F.length c0, .slice A5 Q.length c5] 25 (0, 0)) := ⟨_, rfl⟩); (obtain ⟨g11, hg11⟩ : ∃ x, x = w4.heap.size := ⟨_, rfl⟩); rw [← hw5, ← hg11] at K11; rw [← hw5] at hb; replace HB := Aside0.mk (below_step HB.out hb); replace HR0 := Aside0.mk (Kd.C_below HR0.out hb); replace HR1 := Aside0.mk (Kd.C_below HR1.out hb); replace HR2 := Aside0.mk (Kd.C_below HR2.out hb); replace HR3 := Aside0.mk (Kd.C_below HR3.out hb); replace HR5 := Aside0.mk (Kd.C_below HR5.out hb); replace K4 := Aside0.mk (blk_below K4.out hb); clear hb; clear zK4_0 zK4_1; have zK4_0 : w5.cell? ⟨g4, 0, none⟩ = some (.slice A0 F.length c0) := (blk_cell K4.out 0).trans rfl; have zK4_1 : w5.cell? ⟨g4, 1, none⟩ = some (.slice A1 P.length c1) := (blk_cell K4.out 1).trans rfl; have zK11_0 : w5.cell? ⟨g11, 0, none⟩ = some (.slice A0 F.length c0) := (blk_cell K11.out 0).trans rfl; have zK11_1 : w5.cell? ⟨g11, 1, none⟩ = some (.slice A5 Q.length c5) := (blk_cell K11.out 1).trans rfl; (simp only [← hw5, ← hg11]); clear hw5 hg11; (with_reducible refine (cohousingref23_Valid.calls kv A0 c0 F A5 c5 Q true _ HR0.out HC0.out HR5.out HC5.out HV.out).mono ?_); rintro e w6 ⟨rfl, hb⟩; replace HB := Aside0.mk (below_step HB.out hb); replace HR0 := Aside0.mk (Kd.C_below HR0.out hb); replace HR1 := Aside0.mk (Kd.C_below HR1.out hb); replace HR2 := Aside0.mk (Kd.C_below HR2.out hb); replace HR3 := Aside0.mk (Kd.C_below HR3.out hb); replace HR5 := Aside0.mk (Kd.C_below HR5.out hb); replace K4 := Aside0.mk (blk_below K4.out hb); replace K11 := Aside0.mk (blk_below K11.out hb); clear zK4_0 zK4_1; have zK4_0 : w6.cell? ⟨g4, 0, none⟩ = some (.slice A0 F.length c0) := (blk_cell K4.out 0).trans rfl; have zK4_1 : w6.cell? ⟨g4, 1, none⟩ = some (.slice A1 P.length c1) := (blk_cell K4.out 1).trans rfl; clear zK11_0 zK11_1; have zK11_0 : w6.cell? ⟨g11, 0, none⟩ = some (.slice A0 F.length c0) := (blk_cell K11.out 0).trans rfl; have zK11_1 : w6.cell? ⟨g11, 1, none⟩ = some (.slice A5 Q.length c5) := (blk_cell K11.out 1).trans rfl; clear hb)
              | (go_at_call 27; (with_reducible refine (cohousinglaw24_solved.calls ks A0 c0 F A1 c1 P A2 c2 ord T1 true _ HR0.out HC0.out HR1.out HC1.out HR2.out HC2.out HS1.out).mono ?_); rintro e w7 ⟨v6, rfl, hR, hb⟩; replace HB := Aside0.mk (below_step HB.out hb); replace HR0 := Aside0.mk (Kd.C_below HR0.out hb); replace HR1 := Aside0.mk (Kd.C_below HR1.out hb); replace HR2 := Aside0.mk (Kd.C_below HR2.out hb); replace HR3 := Aside0.mk (Kd.C_below HR3.out hb); replace HR5 := Aside0.mk (Kd.C_below HR5.out hb); replace K4 := Aside0.mk (blk_below K4.out hb); replace K11 := Aside0.mk (blk_below K11.out hb); clear zK4_0 zK4_1; have zK4_0 : w7.cell? ⟨g4, 0, none⟩ = some (.slice A0 F.length c0) := (blk_cell K4.out 0).trans rfl; have zK4_1 : w7.cell? ⟨g4, 1, none⟩ = some (.slice A1 P.length c1) := (blk_cell K4.out 1).trans rfl; clear zK11_0 zK11_1; have zK11_0 : w7.cell? ⟨g11, 0, none⟩ = some (.slice A0 F.length c0) := (blk_cell K11.out 0).trans rfl; have zK11_1 : w7.cell? ⟨g11, 1, none⟩ = some (.slice A5 Q.length c5) := (blk_cell K11.out 1).trans rfl; clear hb; (obtain ⟨A6, c6, rfl, hc6, hC6⟩ := Kd.R_reads hR); have HR6 := Aside0.mk hC6; have HC6 := Aside0.mk hc6; clear hR hC6 hc6)
              | (go_at_call 27; (with_reducible refine (cohousinglaw24_solved.calls ks2 A0 c0 F A5 c5 Q A2 c2 ord T2 true _ HR0.out HC0.out HR5.out HC5.out HR2.out HC2.out HS2.out).mono ?_); rintro e w8 ⟨v7, rfl, hR, hb⟩; replace HB := Aside0.mk (below_step HB.out hb); replace HR0 := Aside0.mk (Kd.C_below HR0.out hb); replace HR1 := Aside0.mk (Kd.C_below HR1.out hb); replace HR2 := Aside0.mk (Kd.C_below HR2.out hb); replace HR3 := Aside0.mk (Kd.C_below HR3.out hb); replace HR5 := Aside0.mk (Kd.C_below HR5.out hb); replace HR6 := Aside0.mk (Kd.C_below HR6.out hb); replace K4 := Aside0.mk (blk_below K4.out hb); replace K11 := Aside0.mk (blk_below K11.out hb); clear zK4_0 zK4_1; have zK4_0 : w8.cell? ⟨g4, 0, none⟩ = some (.slice A0 F.length c0) := (blk_cell K4.out 0).trans rfl; have zK4_1 : w8.cell? ⟨g4, 1, none⟩ = some (.slice A1 P.length c1) := (blk_cell K4.out 1).trans rfl; clear zK11_0 zK11_1; have zK11_0 : w8.cell? ⟨g11, 0, none⟩ = some (.slice A0 F.length c0) := (blk_cell K11.out 0).trans rfl; have zK11_1 : w8.cell? ⟨g11, 1, none⟩ = some (.slice A5 Q.length c5) := (blk_cell K11.out 1).trans rfl; clear hb; (obtain ⟨A7, c7, rfl, hc7, hC7⟩ := Kd.R_reads hR); have HR7 := Aside0.mk hC7; have HC7 := Aside0.mk hc7; clear hR hC7 hc7; (obtain ⟨ad6, e, u1⟩ := Kd.at_int HR6.out (k : Int) p0 p1); cases e; rw [← HX1.out, Int.toNat_natCast] at u1; (obtain ⟨ad7, e, u2⟩ := Kd.at_int HR7.out (k : Int) p0 p2); cases e; rw [← HX2.out, Int.toNat_natCast] at u2))
            go_quiet (fail)
            go_wp2
            go_ret
            exact ⟨rfl, pw_below_drewN HB.out _⟩
end Go.Proofs.Ytjgnkhfgmpaljaa.P
namespace Go.Proofs.Ytjgnkhfgmpaljaa.P
open Go.RowKit Go.Proofs.YtjgnkhfgmpaljaaW.PrintWords Go.Proofs.YtjgnkhfgmpaljaaW.PrintLast Go.Proofs.YtjgnkhfgmpaljaaW.PrintMore Go.Proofs.Ytjgnkhfgmpaljaa.M
set_option linter.unusedVariables false
set_option linter.unusedSimpArgs false
set_option maxHeartbeats 8000000 in
set_option maxRecDepth 100000 in
theorem cohousinglaw24_TradePriority.calls (A0 : Option Addr) (c0 : Nat) (F : List S53) (A1 : Option Addr) (c1 : Nat) (P : List S41) (A2 : Option Addr) (c2 : Nat) (ord : List Int) (a b : Int) (w : World)
    (hr0 : Kd.C k53 w A0 F.length F) (hc0 : F.length ≤ c0) (hr1 : Kd.C k41 w A1 P.length P) (hc1 : P.length ≤ c1) (hr2 : Kd.C (Kd.int .i64) w A2 ord.length ord) (hc2 : ord.length ≤ c2)
    (wm : wf25 ⟨F, P⟩) (wo : wfL ord) (wa : (Lit.int .u8 a).wf = true) (wb : (Lit.int .u8 b).wf = true) :
    Calls Try.prog 10 #[.agg #[.slice A0 F.length c0, .slice A1 P.length c1], .slice A2 ord.length c2, .int .u8 a, .int .u8 b] w fun e w' => e = .returned (.bool true) ∧ Below w.heap.size w w' := by
  have hF : ∀ x ∈ F, okI x.f0 ∧ okI x.f1 := fun x hx => ⟨wfI_okI (wm.1.2 x hx).1, wfI_okI (wm.1.2 x hx).2⟩
  have hP : ∀ p ∈ P, okI p.f1 ∧ ∀ f ∈ p.f2, okI f := fun p hp => ⟨wfI_okI (wm.2.2 p hp).2.1, fun f hf => wfI_okI ((wm.2.2 p hp).2.2.2 f hf)⟩
  have hmP : P.length ≤ 9223372036854775807 := by have := wm.2.1; simp only [maxLen] at this; exact this
  have hmO : ord.length ≤ 9223372036854775807 := by have := wo.1; simp only [maxLen] at this; exact this
  obtain ⟨a0, a1⟩ : 0 ≤ a ∧ a ≤ 255 := by
    have h1 : IntKind.u8.min = 0 := by decide
    have h2 : IntKind.u8.max = 255 := by decide
    simp [Lit.wf] at wa; omega
  obtain ⟨b0, b1⟩ : 0 ≤ b ∧ b ≤ 255 := by
    have h1 : IntKind.u8.min = 0 := by decide
    have h2 : IntKind.u8.max = 255 := by decide
    simp [Lit.wf] at wb; omega
  obtain ⟨ku, hu⟩ := (usable_ev F P ord).rounds
  have HU := Aside0.mk hu
  have HH : Aside0 (cohousinglaw24_head.f = some true) := ⟨rfl⟩
  have hu25 := Try.underlying25
  have hu41 := Try.underlying41
  have HR0 := Aside0.mk hr0
  have HR1 := Aside0.mk hr1
  have HR2 := Aside0.mk hr2
  have HR0b := Aside0.mk hr0
  have HR1b := Aside0.mk hr1
  have HR2b := Aside0.mk hr2
  have HC0 := Aside0.mk hc0
  have HC1 := Aside0.mk hc1
  have HC2 := Aside0.mk hc2
  have HB := Aside0.mk (Below.refl w.heap.size w)
  clear hr0 hr1 hr2 hc0 hc1 hc2 wm wo wa wb hu
  cases hu : useR F P ord with
  | false =>
    rw [hu] at HU
    clear hu hF hP
    go_enter Try.func10, Try.ntmps10
    go_wp2_with (first
      | ((with_reducible refine gate_dst (N := 4) rfl ?_); refine box_event ?hg (N := 4) ?hd (cs := #[.slice A0 F.length c0, .slice A1 P.length c1]) (t := 25) ?hr ?_; (case hd => rfl); (case hg => rfl); (case hr => first | (go_simp; done) | (go_simp; rfl)); intro g4 hg w1 hbox hb; have Gg4 := Aside0.mk hg; clear hg; replace HB := Aside0.mk (below_step HB.out hb); replace HR0 := Aside0.mk (Kd.C_below HR0.out hb); replace HR1 := Aside0.mk (Kd.C_below HR1.out hb); replace HR2 := Aside0.mk (Kd.C_below HR2.out hb); have K4 := Aside0.mk hbox; clear hbox hb; have zK4_0 : w1.cell? ⟨g4, 0, none⟩ = some (.slice A0 F.length c0) := (blk_cell K4.out 0).trans rfl; have zK4_1 : w1.cell? ⟨g4, 1, none⟩ = some (.slice A1 P.length c1) := (blk_cell K4.out 1).trans rfl)
      | (go_at_call 16; (with_reducible refine (cohousinglaw24_head.calls true _ HH.out).mono ?_); rintro e w2 ⟨rfl, hb⟩; replace HB := Aside0.mk (below_step HB.out hb); replace HR0 := Aside0.mk (Kd.C_below HR0.out hb); replace HR1 := Aside0.mk (Kd.C_below HR1.out hb); replace HR2 := Aside0.mk (Kd.C_below HR2.out hb); replace K4 := Aside0.mk (blk_below K4.out hb); clear zK4_0 zK4_1; have zK4_0 : w2.cell? ⟨g4, 0, none⟩ = some (.slice A0 F.length c0) := (blk_cell K4.out 0).trans rfl; have zK4_1 : w2.cell? ⟨g4, 1, none⟩ = some (.slice A1 P.length c1) := (blk_cell K4.out 1).trans rfl; clear hb)
      | (go_at_call 22; (with_reducible refine (cohousinglaw24_usable.calls ku A0 c0 F A1 c1 P A2 c2 ord false _ HR0.out HC0.out HR1.out HC1.out HR2.out HC2.out HU.out).mono ?_); rintro e w3 ⟨rfl, hb⟩; replace HB := Aside0.mk (below_step HB.out hb); replace HR0 := Aside0.mk (Kd.C_below HR0.out hb); replace HR1 := Aside0.mk (Kd.C_below HR1.out hb); replace HR2 := Aside0.mk (Kd.C_below HR2.out hb); replace K4 := Aside0.mk (blk_below K4.out hb); clear zK4_0 zK4_1; have zK4_0 : w3.cell? ⟨g4, 0, none⟩ = some (.slice A0 F.length c0) := (blk_cell K4.out 0).trans rfl; have zK4_1 : w3.cell? ⟨g4, 1, none⟩ = some (.slice A1 P.length c1) := (blk_cell K4.out 1).trans rfl; clear hb))
    go_ret
    exact ⟨rfl, HB.out⟩
  | true =>
    rw [hu] at HU
    obtain ⟨hb, hi, hfine⟩ := use_fine hu hF hP
    have hP20 : P.length ≤ 1000 := by have := hfine.n; omega
    clear hu
    by_cases hz : P.length = 0
    · have q0 : ((P.length : Int) == 0) = true := by simpa using hz
      clear hb hi hfine hF hP hP20 hz
      go_enter Try.func10, Try.ntmps10
      go_wp2_with (first
        | ((with_reducible refine gate_dst (N := 4) rfl ?_); refine box_event ?hg (N := 4) ?hd (cs := #[.slice A0 F.length c0, .slice A1 P.length c1]) (t := 25) ?hr ?_; (case hd => rfl); (case hg => rfl); (case hr => first | (go_simp; done) | (go_simp; rfl)); intro g4 hg w1 hbox hb; have Gg4 := Aside0.mk hg; clear hg; replace HB := Aside0.mk (below_step HB.out hb); replace HR0 := Aside0.mk (Kd.C_below HR0.out hb); replace HR1 := Aside0.mk (Kd.C_below HR1.out hb); replace HR2 := Aside0.mk (Kd.C_below HR2.out hb); have K4 := Aside0.mk hbox; clear hbox hb; have zK4_0 : w1.cell? ⟨g4, 0, none⟩ = some (.slice A0 F.length c0) := (blk_cell K4.out 0).trans rfl; have zK4_1 : w1.cell? ⟨g4, 1, none⟩ = some (.slice A1 P.length c1) := (blk_cell K4.out 1).trans rfl)
        | (go_at_call 16; (with_reducible refine (cohousinglaw24_head.calls true _ HH.out).mono ?_); rintro e w2 ⟨rfl, hb⟩; replace HB := Aside0.mk (below_step HB.out hb); replace HR0 := Aside0.mk (Kd.C_below HR0.out hb); replace HR1 := Aside0.mk (Kd.C_below HR1.out hb); replace HR2 := Aside0.mk (Kd.C_below HR2.out hb); replace K4 := Aside0.mk (blk_below K4.out hb); clear zK4_0 zK4_1; have zK4_0 : w2.cell? ⟨g4, 0, none⟩ = some (.slice A0 F.length c0) := (blk_cell K4.out 0).trans rfl; have zK4_1 : w2.cell? ⟨g4, 1, none⟩ = some (.slice A1 P.length c1) := (blk_cell K4.out 1).trans rfl; clear hb)
        | (go_at_call 22; (with_reducible refine (cohousinglaw24_usable.calls ku A0 c0 F A1 c1 P A2 c2 ord true _ HR0.out HC0.out HR1.out HC1.out HR2.out HC2.out HU.out).mono ?_); rintro e w3 ⟨rfl, hb⟩; replace HB := Aside0.mk (below_step HB.out hb); replace HR0 := Aside0.mk (Kd.C_below HR0.out hb); replace HR1 := Aside0.mk (Kd.C_below HR1.out hb); replace HR2 := Aside0.mk (Kd.C_below HR2.out hb); replace K4 := Aside0.mk (blk_below K4.out hb); clear zK4_0 zK4_1; have zK4_0 : w3.cell? ⟨g4, 0, none⟩ = some (.slice A0 F.length c0) := (blk_cell K4.out 0).trans rfl; have zK4_1 : w3.cell? ⟨g4, 1, none⟩ = some (.slice A1 P.length c1) := (blk_cell K4.out 1).trans rfl; clear hb))
      go_ret
      exact ⟨rfl, HB.out⟩
    · have q0 : ((P.length : Int) == 0) = false := by simpa using hz
      have hol := hfine.ol
      obtain ⟨i, hi1, hia⟩ : ∃ i : Nat, i < ord.length ∧ (i : Int) = a % (ord.length : Int) := ⟨a.toNat % ord.length, Nat.mod_lt _ (by omega), by rw [Int.natCast_emod, Int.toNat_of_nonneg a0]⟩
      obtain ⟨j, hj1, hjb⟩ : ∃ j : Nat, j ≤ i ∧ (j : Int) = b % ((i : Int) + 1) := ⟨b.toNat % (i + 1), by have := Nat.mod_lt b.toNat (show 0 < i + 1 by omega); omega, by rw [Int.natCast_emod, Int.toNat_of_nonneg b0]; rfl⟩
      have e1 : a % (ord.length : Int) = (i : Int) := hia.symm
      have e2 : a.tmod (ord.length : Int) = (i : Int) := by rw [Int.tmod_eq_emod_of_nonneg a0]; exact e1
      have e3 : (wrap64 a).tmod (ord.length : Int) = (i : Int) := by rw [show wrap64 a = a from by unfold wrap64; omega]; exact e2
      have e4 : b % ((i : Int) + 1) = (j : Int) := hjb.symm
      have e5 : b.tmod ((i : Int) + 1) = (j : Int) := by rw [Int.tmod_eq_emod_of_nonneg b0]; exact e4
      have e6 : (wrap64 b).tmod ((i : Int) + 1) = (j : Int) := by rw [show wrap64 b = b from by unfold wrap64; omega]; exact e5
      have z1 : ((ord.length : Int) == 0) = false := by rw [beq_eq_false_iff_ne]; omega
      have z2 : ((i : Int) + 1 == 0) = false := by rw [beq_eq_false_iff_ne]; omega
      clear hia hjb
      obtain ⟨Q, hQ⟩ : ∃ Q, Q = earlier ord i j := ⟨_, rfl⟩
      have hfQ : Fine P Q := by rw [hQ]; exact earlier_fine hfine hj1 hi1
      have hbQ : okB F P Q = true := by rw [hQ]; exact earlier_ok hfine hb hj1 hi1
      have hiQ : okIn F P Q = true := okIn_iff.2 ⟨hfQ.n, (by have h1 := hfQ.ol; have h2 := hfQ.n; omega), hF, hfQ.ok⟩
      obtain ⟨htl, hg⟩ := gets hfine
      obtain ⟨htl2, hg2⟩ := gets hfQ
      obtain ⟨ks, hs1⟩ := (solved_ev hi hb htl).rounds
      obtain ⟨ks2, hs2⟩ := (solved_ev hiQ hbQ htl2).rounds
      have HS1 := Aside0.mk hs1
      have HS2 := Aside0.mk hs2
      obtain ⟨p, hpn, hp⟩ : ∃ p : Nat, p < P.length ∧ rd ord (i : Int) = p := by
        obtain ⟨h1, h2⟩ := hfine.ob _ (rd_mem (l := ord) (i := i) hi1)
        exact ⟨(rd ord (i : Int)).toNat, by omega, by omega⟩
      obtain ⟨kr, hr⟩ := (ranking_ev (rd_T41 P (p : Int)).f0 (rd_T41 P (p : Int)).f1 (rd_T41 P (p : Int)).f2 (by have := (hfine.ok _ (rd41_mem hpn)).1; omega)).rounds
      have HRk : Aside0 (cohousingref23_Ranking.f kr (rd_T41 P (p : Int)).f0 (rd_T41 P (p : Int)).f1 (rd_T41 P (p : Int)).f2 = some (rankL (ownP P p) (wantsP P p))) := ⟨hr⟩
      have hrl := rank_len (P := P) (p := p) (hfine.ok _ (rd41_mem hpn)).1
      have hlaw : 0 ≤ inZ (rd (finalG P Q).tos (p : Int)) 0 (rankL (ownP P p) (wantsP P p)) ∧ inZ (rd (finalG P Q).tos (p : Int)) 0 (rankL (ownP P p) (wantsP P p)) ≤ inZ (rd (finalG P ord).tos (p : Int)) 0 (rankL (ownP P p) (wantsP P p)) := by
        have h1 := prio hfine hj1 hi1 hp hpn
        rw [← hQ] at h1
        rw [inZ_idx _ 0 (hg2 p hpn).2, inZ_idx _ 0 (hg p hpn).2]
        omega
      have hl1 : (finalG P ord).tos.length = P.length := htl
      have hl2 : (finalG P Q).tos.length = P.length := htl2
      have hol2 : ord.length ≤ 1000 := by omega
      obtain ⟨u1, hu1⟩ : ∃ u, u = ord.take ((j : Int)).toNat := ⟨_, rfl⟩
      obtain ⟨u2, hu2⟩ : ∃ u, u = (ord.take ((i : Int)).toNat).drop ((j : Int)).toNat := ⟨_, rfl⟩
      obtain ⟨u3, hu3⟩ : ∃ u, u = ord.drop ((i : Int) + 1).toNat := ⟨_, rfl⟩
      have HQ : Aside0 (Q = (([] ++ u1) ++ [rd ord (i : Int)]) ++ u2 ++ u3) := ⟨by
        rw [hQ, hu1, hu2, hu3]; unfold earlier
        rw [Int.toNat_natCast, Int.toNat_natCast, show ((i : Int) + 1).toNat = i + 1 by omega, List.nil_append, List.drop_take]⟩
      have lu1 : u1.length ≤ 1000 := by rw [hu1, List.length_take]; omega
      have lu2 : u2.length ≤ 1000 := by rw [hu2, List.length_drop, List.length_take]; omega
      have lu3 : u3.length ≤ 1000 := by rw [hu3, List.length_drop]; omega
      obtain ⟨i0, hi0, hz0, hz1, hz2⟩ := info_parts info3
      have hol3 := hfine.ol
      have hPn := hfine.n
      obtain ⟨hr1, hq1, hn1⟩ := print_take_of (P := Try.prog) (Value.int .i64) 0 26 3 .i64 Try.underlying26 hi0 hz1 A2 c2 ord (j : Int) (by omega) (by omega) HC2.out
      obtain ⟨A20, hr2, hq2, hn2⟩ := print_mid_of (P := Try.prog) (Value.int .i64) 0 26 3 .i64 .i64 Try.underlying26 hi0 hz1 A2 c2 ord (j : Int) (i : Int) (by omega) (by omega) (by omega) HC2.out
      obtain ⟨A30, hr3, hq3, hn3⟩ := print_drop_of (P := Try.prog) (Value.int .i64) 0 26 3 .i64 Try.underlying26 hi0 hz1 A2 c2 ord ((i : Int) + 1) (by omega) (by omega) HC2.out
      rw [← hu1] at hr1 hq1
      rw [← hu2] at hr2 hq2
      rw [← hu3] at hr3 hq3
      have HU1 := Aside0.mk (Kd.C_of_reads (h1 := fun _ => rfl) (hq1 _ (Kd.reads_of_C HR2b.out)))
      have HU2 := Aside0.mk (Kd.C_of_reads (h1 := fun _ => rfl) (hq2 _ (Kd.reads_of_C HR2b.out)))
      have HU3 := Aside0.mk (Kd.C_of_reads (h1 := fun _ => rfl) (hq3 _ (Kd.reads_of_C HR2b.out)))
      have LU := Aside0.mk (And.intro lu1 (And.intro lu2 lu3))
      clear hol3 hPn hq1 hq2 hq3 hn1 hn2 hn3 hi0 hz0 hz1 hz2 hu1 hu2 hu3 lu1 lu2 lu3
      clear hr hg hg2 htl htl2 hs1 hs2 hfQ hbQ hiQ hfine hb hi hF hP hz hQ a0 a1 b0 b1
      generalize (finalG P ord).tos = T1 at *
      generalize (finalG P Q).tos = T2 at *
      generalize rankL (ownP P p) (wantsP P p) = l at *
      obtain ⟨ki1, hi1'⟩ := (in_ev l (rd T1 (p : Int)) (by omega)).rounds
      obtain ⟨ki2, hi2'⟩ := (in_ev l (rd T2 (p : Int)) (by omega)).rounds
      have HI1 := Aside0.mk hi1'
      have HI2 := Aside0.mk hi2'
      clear hi1' hi2'
      generalize inZ (rd T1 (p : Int)) 0 l = i1 at *
      generalize inZ (rd T2 (p : Int)) 0 l = i2 at *
      obtain ⟨x1, hx1⟩ : ∃ x, x = rd T1 (p : Int) := ⟨_, rfl⟩
      obtain ⟨x2, hx2⟩ : ∃ x, x = rd T2 (p : Int) := ⟨_, rfl⟩
      rw [← hx1] at HI1
      rw [← hx2] at HI2
      have HX1 := Aside0.mk hx1
      have HX2 := Aside0.mk hx2
      have HX0 := Aside0.mk hp
      clear hx1 hx2 hrl
      have p0 : (0 : Int) ≤ (p : Int) := Int.natCast_nonneg p
      have p1 : (p : Int) < (T1.length : Int) := by omega
      have p2 : (p : Int) < (T2.length : Int) := by omega
      have p3 : (p : Int) < (P.length : Int) := by omega
      have s0 : (0 : Int) ≤ (i : Int) := Int.natCast_nonneg i
      have s1 : (i : Int) < (ord.length : Int) := by omega
      have s2 : (j : Int) ≤ (i : Int) := by omega
      have HL1 := Aside0.mk hl1
      have HL2 := Aside0.mk hl2
      have HL3 := Aside0.mk hol2
      have r0 : decide (0 ≤ i2) = true := decide_eq_true hlaw.1
      have r1 : decide (i2 ≤ i1) = true := decide_eq_true hlaw.2
      rw [hp] at HQ
      clear hl1 hl2 hol2 hlaw hp hol
      go_enter Try.func10, Try.ntmps10
      go_wp2_with (first
        | ((with_reducible refine gate_dst (N := 4) rfl ?_); refine box_event ?hg (N := 4) ?hd (cs := #[.slice A0 F.length c0, .slice A1 P.length c1]) (t := 25) ?hr ?_; (case hd => rfl); (case hg => rfl); (case hr => first | (go_simp; done) | (go_simp; rfl)); intro g4 hg w1 hbox hb; have Gg4 := Aside0.mk hg; clear hg; replace HB := Aside0.mk (below_step HB.out hb); replace HR0 := Aside0.mk (Kd.C_below HR0.out hb); replace HR1 := Aside0.mk (Kd.C_below HR1.out hb); replace HR2 := Aside0.mk (Kd.C_below HR2.out hb); have K4 := Aside0.mk hbox; clear hbox hb; have zK4_0 : w1.cell? ⟨g4, 0, none⟩ = some (.slice A0 F.length c0) := (blk_cell K4.out 0).trans rfl; have zK4_1 : w1.cell? ⟨g4, 1, none⟩ = some (.slice A1 P.length c1) := (blk_cell K4.out 1).trans rfl)
        | (go_at_call 16; (with_reducible refine (cohousinglaw24_head.calls true _ HH.out).mono ?_); rintro e w2 ⟨rfl, hb⟩; replace HB := Aside0.mk (below_step HB.out hb); replace HR0 := Aside0.mk (Kd.C_below HR0.out hb); replace HR1 := Aside0.mk (Kd.C_below HR1.out hb); replace HR2 := Aside0.mk (Kd.C_below HR2.out hb); replace K4 := Aside0.mk (blk_below K4.out hb); clear zK4_0 zK4_1; have zK4_0 : w2.cell? ⟨g4, 0, none⟩ = some (.slice A0 F.length c0) := (blk_cell K4.out 0).trans rfl; have zK4_1 : w2.cell? ⟨g4, 1, none⟩ = some (.slice A1 P.length c1) := (blk_cell K4.out 1).trans rfl; clear hb)
        | (go_at_call 22; (with_reducible refine (cohousinglaw24_usable.calls ku A0 c0 F A1 c1 P A2 c2 ord true _ HR0.out HC0.out HR1.out HC1.out HR2.out HC2.out HU.out).mono ?_); rintro e w3 ⟨rfl, hb⟩; replace HB := Aside0.mk (below_step HB.out hb); replace HR0 := Aside0.mk (Kd.C_below HR0.out hb); replace HR1 := Aside0.mk (Kd.C_below HR1.out hb); replace HR2 := Aside0.mk (Kd.C_below HR2.out hb); replace K4 := Aside0.mk (blk_below K4.out hb); clear zK4_0 zK4_1; have zK4_0 : w3.cell? ⟨g4, 0, none⟩ = some (.slice A0 F.length c0) := (blk_cell K4.out 0).trans rfl; have zK4_1 : w3.cell? ⟨g4, 1, none⟩ = some (.slice A1 P.length c1) := (blk_cell K4.out 1).trans rfl; clear hb; (obtain ⟨ad2, e, y0⟩ := Kd.at_int HR2.out (i : Int) s0 s1); cases e; clear y0; have HO1 := Aside0.mk (Kd.R_nil (Kd.int .i64) 3 w3 w.heap.size (fun _ => True)))
        | ((with_reducible refine gate_builtin (b := .append) (xs := #[.tmp 41, .tmp 44]) rfl ?_); at_builtin; refine Kd.R_append_rows (Kd.int .i64) (w0 := w) w.heap.size rfl (.tmp 41) (.tmp 44) 26 3 (.int .i64 0) 8 rfl Try.underlying26 info3 rfl (by decide) (by omega) (.slice none 0 0) ([] : List Int) u1 _ _ _ (fun _ => True) (fun _ => False) rfl rfl ?aO ?aR (fun _ _ h => h) (fun _ h => h.elim) (fun _ _ => trivial) HB.out (below_size HB.out) ?aL ?_; (case aO => exact HO1.out); (case aR => exact Kd.C_below HU1.out HB.out); (case aL => (have hlu := LU.out; simp only [List.length_append, List.length_nil, List.length_cons]; omega)); intro v2 w4 hR hb hg hat; replace K4 := Aside0.mk (blk_grown K4.out hg (Kd.R_ne HO1.out K4.out (by decide))); replace HR0 := Aside0.mk (Kd.C_below HR0b.out hb); replace HR1 := Aside0.mk (Kd.C_below HR1b.out hb); replace HR2 := Aside0.mk (Kd.C_below HR2b.out hb); replace HB := Aside0.mk hb; clear hb hg hat; clear zK4_0 zK4_1; have zK4_0 : w4.cell? ⟨g4, 0, none⟩ = some (.slice A0 F.length c0) := (blk_cell K4.out 0).trans rfl; have zK4_1 : w4.cell? ⟨g4, 1, none⟩ = some (.slice A1 P.length c1) := (blk_cell K4.out 1).trans rfl; have HO2 := Aside0.mk hR; clear hR; (obtain ⟨adx, e, y0⟩ := Kd.at_int HR2.out (i : Int) s0 s1); cases e; rw [HX0.out, Int.toNat_natCast] at y0)
        | ((with_reducible refine gate_builtin (b := .append) (xs := #[.tmp 46, .tmp 51]) rfl ?_); at_builtin; refine Kd.R_append (Kd.int .i64) (w0 := w) w.heap.size rfl (.tmp 46) (.tmp 51) 26 3 (.int .i64 0) 8 rfl Try.underlying26 info3 rfl (by decide) (by omega) v2 ([] ++ u1) (p : Int) [.int .i64 (p : Int)] (fun _ => True) (fun _ => False) rfl rfl ?aP (fun _ hk => hk.elim) (fun _ _ => trivial) ?aO HB.out (below_size HB.out) ?aL ?_; (case aP => exact rfl); (case aO => exact HO2.out); (case aL => (have hlu := LU.out; simp only [List.length_append, List.length_nil, List.length_cons]; omega)); intro v3 w5 hR hb hg hat; replace K4 := Aside0.mk (blk_grown K4.out hg (Kd.R_ne HO2.out K4.out (by decide))); replace HR0 := Aside0.mk (Kd.C_below HR0b.out hb); replace HR1 := Aside0.mk (Kd.C_below HR1b.out hb); replace HR2 := Aside0.mk (Kd.C_below HR2b.out hb); replace HB := Aside0.mk hb; clear hb hg hat; clear zK4_0 zK4_1; have zK4_0 : w5.cell? ⟨g4, 0, none⟩ = some (.slice A0 F.length c0) := (blk_cell K4.out 0).trans rfl; have zK4_1 : w5.cell? ⟨g4, 1, none⟩ = some (.slice A1 P.length c1) := (blk_cell K4.out 1).trans rfl; have HO3 := Aside0.mk hR; clear hR; clear y0)
        | ((with_reducible refine gate_builtin (b := .append) (xs := #[.tmp 53, .tmp 57]) rfl ?_); at_builtin; refine Kd.R_append_rows (Kd.int .i64) (w0 := w) w.heap.size rfl (.tmp 53) (.tmp 57) 26 3 (.int .i64 0) 8 rfl Try.underlying26 info3 rfl (by decide) (by omega) v3 (([] ++ u1) ++ [(p : Int)]) u2 _ _ _ (fun _ => True) (fun _ => False) rfl rfl ?aO ?aR (fun _ _ h => h) (fun _ h => h.elim) (fun _ _ => trivial) HB.out (below_size HB.out) ?aL ?_; (case aO => exact HO3.out); (case aR => exact Kd.C_below HU2.out HB.out); (case aL => (have hlu := LU.out; simp only [List.length_append, List.length_nil, List.length_cons]; omega)); intro v4 w6 hR hb hg hat; replace K4 := Aside0.mk (blk_grown K4.out hg (Kd.R_ne HO3.out K4.out (by decide))); replace HR0 := Aside0.mk (Kd.C_below HR0b.out hb); replace HR1 := Aside0.mk (Kd.C_below HR1b.out hb); replace HR2 := Aside0.mk (Kd.C_below HR2b.out hb); replace HB := Aside0.mk hb; clear hb hg hat; clear zK4_0 zK4_1; have zK4_0 : w6.cell? ⟨g4, 0, none⟩ = some (.slice A0 F.length c0) := (blk_cell K4.out 0).trans rfl; have zK4_1 : w6.cell? ⟨g4, 1, none⟩ = some (.slice A1 P.length c1) := (blk_cell K4.out 1).trans rfl; have HO4 := Aside0.mk hR; clear hR)
        | ((with_reducible refine gate_builtin (b := .append) (xs := #[.tmp 59, .tmp 63]) rfl ?_); at_builtin; refine Kd.R_append_rows (Kd.int .i64) (w0 := w) w.heap.size rfl (.tmp 59) (.tmp 63) 26 3 (.int .i64 0) 8 rfl Try.underlying26 info3 rfl (by decide) (by omega) v4 ((([] ++ u1) ++ [(p : Int)]) ++ u2) u3 _ _ _ (fun _ => True) (fun _ => False) rfl rfl ?aO ?aR (fun _ _ h => h) (fun _ h => h.elim) (fun _ _ => trivial) HB.out (below_size HB.out) ?aL ?_; (case aO => exact HO4.out); (case aR => exact Kd.C_below HU3.out HB.out); (case aL => (have hlu := LU.out; simp only [List.length_append, List.length_nil, List.length_cons]; omega)); intro v5 w7 hR hb hg hat; replace K4 := Aside0.mk (blk_grown K4.out hg (Kd.R_ne HO4.out K4.out (by decide))); replace HR0 := Aside0.mk (Kd.C_below HR0b.out hb); replace HR1 := Aside0.mk (Kd.C_below HR1b.out hb); replace HR2 := Aside0.mk (Kd.C_below HR2b.out hb); replace HB := Aside0.mk hb; clear hb hg hat; clear zK4_0 zK4_1; have zK4_0 : w7.cell? ⟨g4, 0, none⟩ = some (.slice A0 F.length c0) := (blk_cell K4.out 0).trans rfl; have zK4_1 : w7.cell? ⟨g4, 1, none⟩ = some (.slice A1 P.length c1) := (blk_cell K4.out 1).trans rfl; have HO5 := Aside0.mk hR; clear hR; have hR := HO5.out; rw [← HQ.out] at hR; (obtain ⟨A9, c9, rfl, hc9, hC9⟩ := Kd.R_reads hR); have HR9 := Aside0.mk hC9; have HC9 := Aside0.mk hc9; clear hR hC9 hc9)
        | (go_at_call 27; (with_reducible refine (cohousinglaw24_solved.calls ks A0 c0 F A1 c1 P (some ad2) c2 ord T1 true _ HR0.out HC0.out HR1.out HC1.out HR2.out HC2.out HS1.out).mono ?_); rintro e w8 ⟨v6, rfl, hR, hb⟩; replace HB := Aside0.mk (below_step HB.out hb); replace HR0 := Aside0.mk (Kd.C_below HR0.out hb); replace HR1 := Aside0.mk (Kd.C_below HR1.out hb); replace HR2 := Aside0.mk (Kd.C_below HR2.out hb); replace HR9 := Aside0.mk (Kd.C_below HR9.out hb); replace K4 := Aside0.mk (blk_below K4.out hb); clear zK4_0 zK4_1; have zK4_0 : w8.cell? ⟨g4, 0, none⟩ = some (.slice A0 F.length c0) := (blk_cell K4.out 0).trans rfl; have zK4_1 : w8.cell? ⟨g4, 1, none⟩ = some (.slice A1 P.length c1) := (blk_cell K4.out 1).trans rfl; clear hb; (obtain ⟨A6, c6, rfl, hc6, hC6⟩ := Kd.R_reads hR); have HR6 := Aside0.mk hC6; have HC6 := Aside0.mk hc6; clear hR hC6 hc6)
        | (go_at_call 27; (with_reducible refine (cohousinglaw24_solved.calls ks2 A0 c0 F A1 c1 P A9 c9 Q T2 true _ HR0.out HC0.out HR1.out HC1.out HR9.out HC9.out HS2.out).mono ?_); rintro e w9 ⟨v7, rfl, hR, hb⟩; replace HB := Aside0.mk (below_step HB.out hb); replace HR0 := Aside0.mk (Kd.C_below HR0.out hb); replace HR1 := Aside0.mk (Kd.C_below HR1.out hb); replace HR2 := Aside0.mk (Kd.C_below HR2.out hb); replace HR9 := Aside0.mk (Kd.C_below HR9.out hb); replace HR6 := Aside0.mk (Kd.C_below HR6.out hb); replace K4 := Aside0.mk (blk_below K4.out hb); clear zK4_0 zK4_1; have zK4_0 : w9.cell? ⟨g4, 0, none⟩ = some (.slice A0 F.length c0) := (blk_cell K4.out 0).trans rfl; have zK4_1 : w9.cell? ⟨g4, 1, none⟩ = some (.slice A1 P.length c1) := (blk_cell K4.out 1).trans rfl; clear hb; (obtain ⟨A7, c7, rfl, hc7, hC7⟩ := Kd.R_reads hR); have HR7 := Aside0.mk hC7; have HC7 := Aside0.mk hc7; clear hR hC7 hc7; (obtain ⟨adx, e, y0⟩ := Kd.at_int HR2.out (i : Int) s0 s1); cases e; rw [HX0.out, Int.toNat_natCast] at y0; (obtain ⟨ad, Aw, cw, e, t0, t1, t2, lw, gw⟩ := at_T41 HR1.out (p : Int) p0 p3); cases e; simp only [Int.toNat_natCast] at t0 t1 t2; have HRW := Aside0.mk gw; have HCW := Aside0.mk lw; clear gw lw)
        | (go_at_call 23; (with_reducible refine (cohousingref23_Ranking.calls kr _ _ Aw cw _ l _ HRW.out HCW.out HRk.out).mono ?_); rintro e w10 ⟨v8, rfl, hR, hb⟩; replace HB := Aside0.mk (below_step HB.out hb); replace HR0 := Aside0.mk (Kd.C_below HR0.out hb); replace HR1 := Aside0.mk (Kd.C_below HR1.out hb); replace HR2 := Aside0.mk (Kd.C_below HR2.out hb); replace HR9 := Aside0.mk (Kd.C_below HR9.out hb); replace HR6 := Aside0.mk (Kd.C_below HR6.out hb); replace HR7 := Aside0.mk (Kd.C_below HR7.out hb); replace HRW := Aside0.mk (Kd.C_below HRW.out hb); replace K4 := Aside0.mk (blk_below K4.out hb); clear zK4_0 zK4_1; have zK4_0 : w10.cell? ⟨g4, 0, none⟩ = some (.slice A0 F.length c0) := (blk_cell K4.out 0).trans rfl; have zK4_1 : w10.cell? ⟨g4, 1, none⟩ = some (.slice (some ad) P.length c1) := (blk_cell K4.out 1).trans rfl; clear hb; (obtain ⟨A8, c8, rfl, hc8, hC8⟩ := Kd.R_reads hR); have HR8 := Aside0.mk hC8; have HC8 := Aside0.mk hc8; clear hR hC8 hc8; clear t0 t1 t2 y0; (obtain ⟨ad7, e, v0⟩ := Kd.at_int HR7.out (p : Int) p0 p2); cases e; rw [← HX2.out, Int.toNat_natCast] at v0; (obtain ⟨ad6, e, v1⟩ := Kd.at_int HR6.out (p : Int) p0 p1); cases e; rw [← HX1.out, Int.toNat_natCast] at v1))
      go_quiet ((first | (go_at_call 24; (with_reducible refine (cohousingref23_In.calls ki2 A8 c8 l x2 i2 _ (Kd.C_drewN HR8.out _) HC8.out HI2.out).mono ?_); rintro e w' ⟨rfl, ⟨nd, rfl⟩⟩; exact ⟨rfl, _, World.drewN_drewN _ _ _⟩) | (go_at_call 24; (with_reducible refine (cohousingref23_In.calls ki1 A8 c8 l x1 i1 _ (Kd.C_drewN HR8.out _) HC8.out HI1.out).mono ?_); rintro e w' ⟨rfl, ⟨nd, rfl⟩⟩; exact ⟨rfl, _, World.drewN_drewN _ _ _⟩)))
      go_wp2
      go_ret
      exact ⟨rfl, pw_below_drewN HB.out _⟩
end Go.Proofs.Ytjgnkhfgmpaljaa.P
