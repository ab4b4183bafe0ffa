/- Lemmas, readings of functions as plain Lean functions and contracts of functions of the program, for the claimed theorem; each one's conditions stand in its statement. -/
import Derived.Test.YtjgnkhfgmpaljaaQTD29
import Derived.Test.YtjgnkhfgmpaljaaQTD24
import Derived.Test.YtjgnkhfgmpaljaaQTD7
import Derived.Test.YtjgnkhfgmpaljaaQTD32
namespace Go.Proofs.Ytjgnkhfgmpaljaa.P
open Go.RowKit Go.Proofs.YtjgnkhfgmpaljaaW.PrintWords Go.Proofs.YtjgnkhfgmpaljaaW.PrintLast Go.Proofs.YtjgnkhfgmpaljaaW.PrintMore Go.Proofs.Ytjgnkhfgmpaljaa.M
set_option linter.unusedVariables false
set_option linter.unusedSimpArgs false
set_option maxHeartbeats 8000000 in
set_option maxRecDepth 100000 in
theorem cohousinglaw24_TradeMatchesReference.calls (A0:Option Addr) (c0:Nat) (F:List S53) (A1:Option Addr) (c1:Nat) (P:List S41) (A2:Option Addr) (c2:Nat) (ord:List Int) (w:World)
    (hr0:Kd.C k53 w A0 F.length F) (hc0:F.length≤c0) (hr1:Kd.C k41 w A1 P.length P) (hc1:P.length≤c1) (hr2:Kd.C (Kd.int .i64) w A2 ord.length ord) (hc2:ord.length≤c2)
    (wm:wf25 ⟨F,P⟩) (wo:wfL ord) :
    Calls Try.prog 3 #[.agg #[.slice A0 F.length c0,.slice A1 P.length c1],.slice A2 ord.length c2] w fun e w'=>e = .returned (.bool true)∧Below w.heap.size w w':=by
  have hF:∀ x ∈ F,okI x.f0∧okI x.f1:=fun x hx=>⟨wfI_okI (wm.1.2 x hx).1,wfI_okI (wm.1.2 x hx).2⟩
  have hP:∀ p ∈ P,okI p.f1∧∀ f ∈ p.f2,okI f:=fun p hp=>⟨wfI_okI (wm.2.2 p hp).2.1,fun f hf=>wfI_okI ((wm.2.2 p hp).2.2.2 f hf)⟩
  have hmP:P.length≤9223372036854775807:=by have:=wm.2.1;simp only [maxLen] at this;exact this
  obtain ⟨kf,hfew⟩:=(few_ev F P).rounds
  have HFw:=zF hfew
  have HH:Aside0 (cohousinglaw24_head.f=some true):=⟨rfl⟩
  have hu25:=Try.underlying25
  have hu41:=Try.underlying41
  have HR0:=zF hr0
  have HR1:=zF hr1
  have HR2:=zF hr2
  have HC0:=zF hc0
  have HC1:=zF hc1
  have HC2:=zF hc2
  have HB:=zF (Below.refl w.heap.size w)
  clear hr0 hr1 hr2 hc0 hc1 hc2 wm wo hfew
  cases hu:fewR F P with
  | false =>
    rw [hu] at HFw
    clear hu hF hP
    go_enter Try.func3,Try.ntmps3
    go_wp2_with (first
      | ((with_reducible refine gate_dst (N:=2) rfl ?_);refine box_event ?hg (N:=2) ?hd (cs:=#[.slice A0 F.length c0,.slice A1 P.length c1]) (t:=25) ?hr ?_;(case hd=>rfl);(case hg=>rfl);(case hr=>first|(go_simp;done)|(go_simp;rfl));intro g2 hg w1 hbox hb;have Gg2:=zF hg;clear hg;replace HB:=zF (below_step HB.out hb);replace HR0:=zF (Kd.C_below HR0.out hb);replace HR1:=zF (Kd.C_below HR1.out hb);replace HR2:=zF (Kd.C_below HR2.out hb);have K2:=zF hbox;clear hbox hb;have zK2_0:w1.cell? ⟨g2,0,none⟩=some (.slice A0 F.length c0):=(blk_cell K2.out 0).trans rfl;have zK2_1:w1.cell? ⟨g2,1,none⟩=some (.slice A1 P.length c1):=(blk_cell K2.out 1).trans rfl)
      | (go_at_call 16;(with_reducible refine (cohousinglaw24_head.calls true _ HH.out).mono ?_);rintro e w2 ⟨rfl,hb⟩;replace HB:=zF (below_step HB.out hb);replace HR0:=zF (Kd.C_below HR0.out hb);replace HR1:=zF (Kd.C_below HR1.out hb);replace HR2:=zF (Kd.C_below HR2.out hb);replace K2:=zF (blk_below K2.out hb);clear zK2_0 zK2_1;have zK2_0:w2.cell? ⟨g2,0,none⟩=some (.slice A0 F.length c0):=(blk_cell K2.out 0).trans rfl;have zK2_1:w2.cell? ⟨g2,1,none⟩=some (.slice A1 P.length c1):=(blk_cell K2.out 1).trans rfl;clear hb)
      | (go_at_call 17;(with_reducible refine (cohousingref23_Few.calls kf A0 c0 F A1 c1 P false _ HR0.out HC0.out HR1.out HC1.out HFw.out).mono ?_);rintro e w3 ⟨rfl,hb⟩;replace HB:=zF (below_step HB.out hb);replace HR0:=zF (Kd.C_below HR0.out hb);replace HR1:=zF (Kd.C_below HR1.out hb);replace HR2:=zF (Kd.C_below HR2.out hb);replace K2:=zF (blk_below K2.out hb);clear zK2_0 zK2_1;have zK2_0:w3.cell? ⟨g2,0,none⟩=some (.slice A0 F.length c0):=(blk_cell K2.out 0).trans rfl;have zK2_1:w3.cell? ⟨g2,1,none⟩=some (.slice A1 P.length c1):=(blk_cell K2.out 1).trans rfl;clear hb))
    go_ret
    exact ⟨rfl,HB.out⟩
  | true =>
    rw [hu] at HFw
    by_cases hol:30 < ord.length
    · have q0:decide ((30:Int) < (ord.length:Int))=true:=decide_eq_true (by omega)
      clear hu hF hP hol
      go_enter Try.func3,Try.ntmps3
      go_wp2_with (first
        | ((with_reducible refine gate_dst (N:=2) rfl ?_);refine box_event ?hg (N:=2) ?hd (cs:=#[.slice A0 F.length c0,.slice A1 P.length c1]) (t:=25) ?hr ?_;(case hd=>rfl);(case hg=>rfl);(case hr=>first|(go_simp;done)|(go_simp;rfl));intro g2 hg w1 hbox hb;have Gg2:=zF hg;clear hg;replace HB:=zF (below_step HB.out hb);replace HR0:=zF (Kd.C_below HR0.out hb);replace HR1:=zF (Kd.C_below HR1.out hb);replace HR2:=zF (Kd.C_below HR2.out hb);have K2:=zF hbox;clear hbox hb;have zK2_0:w1.cell? ⟨g2,0,none⟩=some (.slice A0 F.length c0):=(blk_cell K2.out 0).trans rfl;have zK2_1:w1.cell? ⟨g2,1,none⟩=some (.slice A1 P.length c1):=(blk_cell K2.out 1).trans rfl)
        | (go_at_call 16;(with_reducible refine (cohousinglaw24_head.calls true _ HH.out).mono ?_);rintro e w2 ⟨rfl,hb⟩;replace HB:=zF (below_step HB.out hb);replace HR0:=zF (Kd.C_below HR0.out hb);replace HR1:=zF (Kd.C_below HR1.out hb);replace HR2:=zF (Kd.C_below HR2.out hb);replace K2:=zF (blk_below K2.out hb);clear zK2_0 zK2_1;have zK2_0:w2.cell? ⟨g2,0,none⟩=some (.slice A0 F.length c0):=(blk_cell K2.out 0).trans rfl;have zK2_1:w2.cell? ⟨g2,1,none⟩=some (.slice A1 P.length c1):=(blk_cell K2.out 1).trans rfl;clear hb)
        | (go_at_call 17;(with_reducible refine (cohousingref23_Few.calls kf A0 c0 F A1 c1 P true _ HR0.out HC0.out HR1.out HC1.out HFw.out).mono ?_);rintro e w3 ⟨rfl,hb⟩;replace HB:=zF (below_step HB.out hb);replace HR0:=zF (Kd.C_below HR0.out hb);replace HR1:=zF (Kd.C_below HR1.out hb);replace HR2:=zF (Kd.C_below HR2.out hb);replace K2:=zF (blk_below K2.out hb);clear zK2_0 zK2_1;have zK2_0:w3.cell? ⟨g2,0,none⟩=some (.slice A0 F.length c0):=(blk_cell K2.out 0).trans rfl;have zK2_1:w3.cell? ⟨g2,1,none⟩=some (.slice A1 P.length c1):=(blk_cell K2.out 1).trans rfl;clear hb))
      go_ret
      exact ⟨rfl,HB.out⟩
    · have q0:decide ((30:Int) < (ord.length:Int))=false:=decide_eq_false (by omega)
      obtain ⟨mv,rg,er,hs1,hs2,hl1,hl2,hl3⟩:=solves (ord:=ord) hu (by omega) hF hP
      obtain ⟨km,hkm⟩:=(sameMoves_refl mv hl1).rounds
      obtain ⟨kg,hkg⟩:=(sameRings_refl rg hl2 hl3).rounds
      have HS1:=zF hs1
      have HS2:=zF hs2
      have HM:=zF hkm
      have HG:=zF hkg
      clear hu hF hP hol hs1 hs2 hkm hkg hl1 hl2 hl3
      go_enter Try.func3,Try.ntmps3
      go_wp2_with (first
        | ((with_reducible refine gate_dst (N:=2) rfl ?_);refine box_event ?hg (N:=2) ?hd (cs:=#[.slice A0 F.length c0,.slice A1 P.length c1]) (t:=25) ?hr ?_;(case hd=>rfl);(case hg=>rfl);(case hr=>first|(go_simp;done)|(go_simp;rfl));intro g2 hg w1 hbox hb;have Gg2:=zF hg;clear hg;replace HB:=zF (below_step HB.out hb);replace HR0:=zF (Kd.C_below HR0.out hb);replace HR1:=zF (Kd.C_below HR1.out hb);replace HR2:=zF (Kd.C_below HR2.out hb);have K2:=zF hbox;clear hbox hb;have zK2_0:w1.cell? ⟨g2,0,none⟩=some (.slice A0 F.length c0):=(blk_cell K2.out 0).trans rfl;have zK2_1:w1.cell? ⟨g2,1,none⟩=some (.slice A1 P.length c1):=(blk_cell K2.out 1).trans rfl)
        | (go_at_call 16;(with_reducible refine (cohousinglaw24_head.calls true _ HH.out).mono ?_);rintro e w2 ⟨rfl,hb⟩;replace HB:=zF (below_step HB.out hb);replace HR0:=zF (Kd.C_below HR0.out hb);replace HR1:=zF (Kd.C_below HR1.out hb);replace HR2:=zF (Kd.C_below HR2.out hb);replace K2:=zF (blk_below K2.out hb);clear zK2_0 zK2_1;have zK2_0:w2.cell? ⟨g2,0,none⟩=some (.slice A0 F.length c0):=(blk_cell K2.out 0).trans rfl;have zK2_1:w2.cell? ⟨g2,1,none⟩=some (.slice A1 P.length c1):=(blk_cell K2.out 1).trans rfl;clear hb)
        | (go_at_call 17;(with_reducible refine (cohousingref23_Few.calls kf A0 c0 F A1 c1 P true _ HR0.out HC0.out HR1.out HC1.out HFw.out).mono ?_);rintro e w3 ⟨rfl,hb⟩;replace HB:=zF (below_step HB.out hb);replace HR0:=zF (Kd.C_below HR0.out hb);replace HR1:=zF (Kd.C_below HR1.out hb);replace HR2:=zF (Kd.C_below HR2.out hb);replace K2:=zF (blk_below K2.out hb);clear zK2_0 zK2_1;have zK2_0:w3.cell? ⟨g2,0,none⟩=some (.slice A0 F.length c0):=(blk_cell K2.out 0).trans rfl;have zK2_1:w3.cell? ⟨g2,1,none⟩=some (.slice A1 P.length c1):=(blk_cell K2.out 1).trans rfl;clear hb)
        | (go_at_call 18;(with_reducible refine (trade_Solve.calls A0 c0 F A1 c1 P A2 c2 ord mv rg er _ HR0.out HC0.out HR1.out HC1.out HR2.out HC2.out HS1.out).mono ?_);rintro e w4 ⟨vm,vg,rfl,hM,hG,hb⟩;replace HB:=zF (below_step HB.out hb);replace HR0:=zF (Kd.C_below HR0.out hb);replace HR1:=zF (Kd.C_below HR1.out hb);replace HR2:=zF (Kd.C_below HR2.out hb);replace K2:=zF (blk_below K2.out hb);clear zK2_0 zK2_1;have zK2_0:w4.cell? ⟨g2,0,none⟩=some (.slice A0 F.length c0):=(blk_cell K2.out 0).trans rfl;have zK2_1:w4.cell? ⟨g2,1,none⟩=some (.slice A1 P.length c1):=(blk_cell K2.out 1).trans rfl;clear hb;(obtain ⟨A5,c5,rfl,hm,hCm⟩:=Kd.R_reads hM);(obtain ⟨A6,c6,rfl,hg,hCg⟩:=Kd.S_reads hG);have HR5:=zF hCm;have HC5:=zF hm;have HR6:=zF hCg;have HC6:=zF hg;clear hM hG hm hCm hg hCg)
        | (go_at_call 19;(with_reducible refine (HS2.out A0 A1 A2 c0 c1 c2 _ HR0.out HC0.out HR1.out HC1.out HR2.out HC2.out).mono ?_);rintro e w5 ⟨vm,vg,rfl,hM,hG,hb⟩;replace HB:=zF (below_step HB.out hb);replace HR0:=zF (Kd.C_below HR0.out hb);replace HR1:=zF (Kd.C_below HR1.out hb);replace HR2:=zF (Kd.C_below HR2.out hb);replace HR5:=zF (Kd.C_below HR5.out hb);replace HR6:=zF (Kd.C_below HR6.out hb);replace K2:=zF (blk_below K2.out hb);clear zK2_0 zK2_1;have zK2_0:w5.cell? ⟨g2,0,none⟩=some (.slice A0 F.length c0):=(blk_cell K2.out 0).trans rfl;have zK2_1:w5.cell? ⟨g2,1,none⟩=some (.slice A1 P.length c1):=(blk_cell K2.out 1).trans rfl;clear hb;(obtain ⟨A7,c7,rfl,hm,hCm⟩:=Kd.R_reads hM);(obtain ⟨A8,c8,rfl,hg,hCg⟩:=Kd.S_reads hG);have HR7:=zF hCm;have HC7:=zF hm;have HR8:=zF hCg;have HC8:=zF hg;clear hM hG hm hCm hg hCg)
        | (go_at_call 20;(with_reducible refine (cohousingref24_SameMoves.calls km A5 c5 mv A7 c7 mv true _ HR5.out HC5.out HR7.out HC7.out HM.out).mono ?_);rintro e w6 ⟨rfl,hd⟩;have hb:=hd.below;clear hd;replace HB:=zF (below_step HB.out hb);replace HR0:=zF (Kd.C_below HR0.out hb);replace HR1:=zF (Kd.C_below HR1.out hb);replace HR2:=zF (Kd.C_below HR2.out hb);replace HR5:=zF (Kd.C_below HR5.out hb);replace HR6:=zF (Kd.C_below HR6.out hb);replace HR7:=zF (Kd.C_below HR7.out hb);replace HR8:=zF (Kd.C_below HR8.out hb);replace K2:=zF (blk_below K2.out hb);clear zK2_0 zK2_1;have zK2_0:w6.cell? ⟨g2,0,none⟩=some (.slice A0 F.length c0):=(blk_cell K2.out 0).trans rfl;have zK2_1:w6.cell? ⟨g2,1,none⟩=some (.slice A1 P.length c1):=(blk_cell K2.out 1).trans rfl;clear hb)
        | (go_at_call 21;(with_reducible refine (cohousingref24_SameRings.calls kg A6 c6 rg A8 c8 rg true _ HR6.out HC6.out HR8.out HC8.out HG.out).mono ?_);rintro e w7 ⟨rfl,hd⟩;have hb:=hd.below;clear hd;replace HB:=zF (below_step HB.out hb);replace HR0:=zF (Kd.C_below HR0.out hb);replace HR1:=zF (Kd.C_below HR1.out hb);replace HR2:=zF (Kd.C_below HR2.out hb);replace HR5:=zF (Kd.C_below HR5.out hb);replace HR6:=zF (Kd.C_below HR6.out hb);replace HR7:=zF (Kd.C_below HR7.out hb);replace HR8:=zF (Kd.C_below HR8.out hb);replace K2:=zF (blk_below K2.out hb);clear zK2_0 zK2_1;have zK2_0:w7.cell? ⟨g2,0,none⟩=some (.slice A0 F.length c0):=(blk_cell K2.out 0).trans rfl;have zK2_1:w7.cell? ⟨g2,1,none⟩=some (.slice A1 P.length c1):=(blk_cell K2.out 1).trans rfl;clear hb))
      go_ret
      exact ⟨rfl,HB.out⟩
end Go.Proofs.Ytjgnkhfgmpaljaa.P
