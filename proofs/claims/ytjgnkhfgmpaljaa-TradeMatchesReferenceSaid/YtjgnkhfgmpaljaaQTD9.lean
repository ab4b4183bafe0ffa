/- Lemmas, readings of functions as plain Lean functions and contracts of functions of the program, for the claimed theorem; each one's conditions stand in its statement. -/
import Derived.Test.YtjgnkhfgmpaljaaQTD7
import Derived.Test.YtjgnkhfgmpaljaaQTD8
namespace Go.Proofs.Ytjgnkhfgmpaljaa.P
open Go.RowKit Go.Proofs.YtjgnkhfgmpaljaaW.PrintWords Go.Proofs.YtjgnkhfgmpaljaaW.PrintLast Go.Proofs.YtjgnkhfgmpaljaaW.PrintMore
attribute [local go_sem] max2_int min2_int max_two min_two max_three min_three max_four min_four   -- for this text's walks alone
set_option linter.unusedVariables false
set_option linter.unusedSimpArgs false

def cohousinglaw24_usable.f (k:Nat) (l0_0:List (S53)) (l0_1:List (S41)) (l1:List Int):Option (Bool):=(cohousingref23_Few.f k l0_0 l0_1).bind fun t300=>(if t300=true then (if (l1.length:Int)≤30 then ((cohousingref23_Valid.f k l0_0 l0_1).bind fun t301=>(if t301=true then ((cohousingref24_Order.f k l1 (l0_1.length:Int)).bind fun t302=>(some t302)) else (some false))) else (some false)) else (some false))
theorem cohousinglaw24_usable.mono:∀ a0 a1 a2 k,LeO (cohousinglaw24_usable.f k a0 a1 a2) (cohousinglaw24_usable.f (k + 1) a0 a1 a2):=by
 intro a0 a1 a2 k
 unfold cohousinglaw24_usable.f
 repeat' first
   | (with_reducible exact cohousingref23_Few.mono _ _ _)
   | (with_reducible exact cohousingref23_Valid.mono _ _ _)
   | (with_reducible exact cohousingref24_Order.mono _ _ _)
   | (with_reducible exact LeO.refl _)
   | (with_reducible exact LeO.none _)
   | (with_reducible refine LeO.ite ?_ ?_)
   | (with_reducible refine LeO.bind ?_ (fun _=>?_))
   | exact cohousingref23_Few.mono _ _ _
   | exact cohousingref23_Valid.mono _ _ _
   | exact cohousingref24_Order.mono _ _ _
   | exact LeO.none _
   | refine LeO.ite ?_ ?_
   | refine LeO.bind ?_ (fun _=>?_)
end Go.Proofs.Ytjgnkhfgmpaljaa.P
namespace Go.Proofs.Ytjgnkhfgmpaljaa.P
open Go.RowKit Go.Proofs.YtjgnkhfgmpaljaaW.PrintWords Go.Proofs.YtjgnkhfgmpaljaaW.PrintLast Go.Proofs.YtjgnkhfgmpaljaaW.PrintMore
attribute [local go_sem] max2_int min2_int max_two min_two max_three min_three max_four min_four   -- for this text's walks alone
set_option linter.unusedVariables false
set_option linter.unusedSimpArgs false

def cohousingref24_tenant.l0:Nat→Int→Int→List (S53)→List (S41)→List Int→List Bool→List Int→List Int→Option (Int)
 | 0,_,_,_,_,_,_,_,_=>none
 | k + 1,x1,x5,x160000,x160001,x160002,x160003,x160004,x160005=>if x5 < (x160001.length:Int) then (if 0≤x5 then (if ((rd_T41 x160001 x5).f1)=x1 then (if x5 < (x160003.length:Int) then (if rdOf false x160003 x5=true then (cohousingref24_tenant.l0 k x1 (wrap64 (x5 + 1)) x160000 x160001 x160002 x160003 x160004 x160005) else (some x5)) else (none)) else (cohousingref24_tenant.l0 k x1 (wrap64 (x5 + 1)) x160000 x160001 x160002 x160003 x160004 x160005)) else (none)) else (some (-1))
def cohousingref24_tenant.f (k:Nat) (l0_0:List (S53)) (l0_1:List (S41)) (l0_2:List Int) (l0_3:List Bool) (l0_4:List Int) (l0_5:List Int) (a1:Int):Option (Int):=cohousingref24_tenant.l0 k a1 0 l0_0 l0_1 l0_2 l0_3 l0_4 l0_5
theorem cohousingref24_tenant.mono_l:∀ k,(∀ y0 y1 y2 y3 y4 y5 y6 y7,LeO (cohousingref24_tenant.l0 k y0 y1 y2 y3 y4 y5 y6 y7) (cohousingref24_tenant.l0 (k + 1) y0 y1 y2 y3 y4 y5 y6 y7))
 | 0=>fun _ _ _ _ _ _ _ _ r h=>by simp [cohousingref24_tenant.l0] at h
 | k + 1=>by
  have ih0:=cohousingref24_tenant.mono_l k
  ·
   intro y0 y1 y2 y3 y4 y5 y6 y7
   unfold cohousingref24_tenant.l0
   repeat' first
   | (with_reducible exact ih0 _ _ _ _ _ _ _ _)
   | (with_reducible exact LeO.refl _)
   | (with_reducible exact LeO.none _)
   | (with_reducible refine LeO.ite ?_ ?_)
   | (with_reducible refine LeO.bind ?_ (fun _=>?_))
   | exact ih0 _ _ _ _ _ _ _ _
   | exact LeO.none _
   | refine LeO.ite ?_ ?_
   | refine LeO.bind ?_ (fun _=>?_)
theorem cohousingref24_tenant.mono:∀ a0 a1 a2 a3 a4 a5 a6 k,LeO (cohousingref24_tenant.f k a0 a1 a2 a3 a4 a5 a6) (cohousingref24_tenant.f (k + 1) a0 a1 a2 a3 a4 a5 a6):=by
 intro a0 a1 a2 a3 a4 a5 a6 k
 have ih0:=cohousingref24_tenant.mono_l k
 unfold cohousingref24_tenant.f
 repeat' first
   | (with_reducible exact ih0 _ _ _ _ _ _ _ _)
   | (with_reducible exact LeO.refl _)
   | (with_reducible exact LeO.none _)
   | (with_reducible refine LeO.ite ?_ ?_)
   | (with_reducible refine LeO.bind ?_ (fun _=>?_))
   | exact ih0 _ _ _ _ _ _ _ _
   | exact LeO.none _
   | refine LeO.ite ?_ ?_
   | refine LeO.bind ?_ (fun _=>?_)
set_option maxHeartbeats 8000000 in
set_option maxRecDepth 100000 in
theorem cohousingref24_tenant.calls (k:Nat) (A0_0:Option Addr) (c0_0:Nat) (l0_0:List (S53)) (A0_1:Option Addr) (c0_1:Nat) (l0_1:List (S41)) (A0_2:Option Addr) (c0_2:Nat) (l0_2:List Int) (A0_3:Option Addr) (c0_3:Nat) (l0_3:List Bool) (A0_4:Option Addr) (c0_4:Nat) (l0_4:List Int) (A0_5:Option Addr) (c0_5:Nat) (l0_5:List Int) (a1:Int) (r:Int) (w:World) (hr0_0:Kd.C k53 w A0_0 l0_0.length l0_0) (hc0_0:l0_0.length≤c0_0) (hr0_1:Kd.C k41 w A0_1 l0_1.length l0_1) (hc0_1:l0_1.length≤c0_1) (hr0_2:Kd.C (Kd.int .i64) w A0_2 l0_2.length l0_2) (hc0_2:l0_2.length≤c0_2) (hr0_3:Kd.C Kd.bool w A0_3 l0_3.length l0_3) (hc0_3:l0_3.length≤c0_3) (hr0_4:Kd.C (Kd.int .i64) w A0_4 l0_4.length l0_4) (hc0_4:l0_4.length≤c0_4) (hr0_5:Kd.C (Kd.int .i64) w A0_5 l0_5.length l0_5) (hc0_5:l0_5.length≤c0_5) (h:cohousingref24_tenant.f k l0_0 l0_1 l0_2 l0_3 l0_4 l0_5 a1=some r) :
  Calls Try.prog 78 #[.agg #[.slice A0_0 l0_0.length c0_0,.slice A0_1 l0_1.length c0_1,.slice A0_2 l0_2.length c0_2,.slice A0_3 l0_3.length c0_3,.slice A0_4 l0_4.length c0_4,.slice A0_5 l0_5.length c0_5],.int .i64 a1] w fun e w'=>e = .returned (.int .i64 r)∧Below w.heap.size w w':=by
 have hu81:=Try.underlying81
 have HR0_0:=zF hr0_0
 have HC0_0:=zF hc0_0
 clear hr0_0 hc0_0
 have HR0_1:=zF hr0_1
 have HC0_1:=zF hc0_1
 clear hr0_1 hc0_1
 have HR0_2:=zF hr0_2
 have HC0_2:=zF hc0_2
 clear hr0_2 hc0_2
 have HR0_3:=zF hr0_3
 have HC0_3:=zF hc0_3
 clear hr0_3 hc0_3
 have HR0_4:=zF hr0_4
 have HC0_4:=zF hc0_4
 clear hr0_4 hc0_4
 have HR0_5:=zF hr0_5
 have HC0_5:=zF hc0_5
 clear hr0_5 hc0_5
 have HB:=zF (Below.refl w.heap.size w)
 have H:(cohousingref24_tenant.l0 k a1 0 l0_0 l0_1 l0_2 l0_3 l0_4 l0_5)=some r:=h
 clear h
 have H':=zF H
 clear H
 go_enter Try.func78,Try.ntmps78
 go_wp2_with (first|((with_reducible refine gate_dst (N:=2) rfl ?_);refine box_event ?hg (N:=2) ?hd (cs:=#[.slice A0_0 l0_0.length c0_0,.slice A0_1 l0_1.length c0_1,.slice A0_2 l0_2.length c0_2,.slice A0_3 l0_3.length c0_3,.slice A0_4 l0_4.length c0_4,.slice A0_5 l0_5.length c0_5]) (t:=81) ?hr ?_;(case hd=>rfl);(case hg=>rfl);(case hr=>first|(go_simp;done)|(go_simp;rfl));intro gb159 hg w3 hbox hb;have n0_:=zF (below_step (by repeat (first|(with_reducible first|exact HB.out|apply below_alloc|apply pw_below_drewN|apply below_drew1)|exact HB.out)) hb);have n1_:=zF (hbox);have n2_:=zF ((by rw [hg];exact (below_size (by repeat (first|(with_reducible first|exact HB.out|apply below_alloc|apply pw_below_drewN|apply below_drew1)|exact HB.out))):w.heap.size≤gb159));have n3_:=zF ((by rw [hg];exact (below_size (by repeat (first|(with_reducible first|exact HB.out|apply below_alloc|apply pw_below_drewN|apply below_drew1)|exact HB.out))):w.heap.size≤gb159));clear HB;have HB:=n0_;have BK159:=n1_;have GW159:=n2_;have GE159:=n3_;clear n0_ n1_ n2_ n3_;clear hb hbox hg))
 go_loopg [5] k (fun kq v5 w'=>∃ (x5_1:Int),v5 = .int .i64 x5_1∧Aside0 (cohousingref24_tenant.l0 kq a1 x5_1 l0_0 l0_1 l0_2 l0_3 l0_4 l0_5=some r)∧Aside0 (kq≤k)∧Aside0 (w'.heap[gb159]? = some (.cells #[(.slice A0_0 l0_0.length c0_0),(.slice A0_1 l0_1.length c0_1),(.slice A0_2 l0_2.length c0_2),(.slice A0_3 l0_3.length c0_3),(.slice A0_4 l0_4.length c0_4),(.slice A0_5 l0_5.length c0_5)] 81 (0,0)))∧Aside0 (Below w.heap.size w w'))
 case atStart=>exact ⟨(0),(by first|rfl|(simp;done)|(simp [*];done)),H',⟨Nat.le_refl _⟩,⟨by (with_reducible repeat (first|refine blk_drewN ?_ _|refine blk_drew ?_|refine blk_alloc ?_ _));exact BK159.out⟩,⟨by repeat (first|(with_reducible first|exact HB.out|apply below_alloc|apply pw_below_drewN|apply below_drew1|refine below_set ?_ GE159.out)|exact HB.out)⟩⟩
 case round =>
  clear H'
  try clear p2
  obtain ⟨x5_1,rfl,HA,HK1,BK159,HB⟩:=hrel
  cases gk with
  | zero=>exact absurd HA.out (by simp [cohousingref24_tenant.l0])
  | succ k1 =>
   have H:=HA.out
   clear HA
   simp only [cohousingref24_tenant.l0] at H
   by_cases c4:x5_1 < (l0_1.length:Int)
   ·
    rw [if_pos c4] at H
    have c4b0:decide (x5_1 < (l0_1.length:Int))=true:=decide_eq_true c4
    clear c4
    by_cases c5:0≤x5_1
    ·
     rw [if_pos c5] at H
     have c5b0:decide (0≤x5_1)=true:=decide_eq_true c5
     clear c5
     by_cases c6:((rd_T41 l0_1 x5_1).f1)=a1
     ·
      rw [if_pos c6] at H
      have c6b0:(((rd_T41 l0_1 x5_1).f1) == a1)=true:=beq_iff_eq.mpr c6
      have c6b1:(((rd_T41 l0_1 x5_1).f1) != a1)=false:=bne_eq_false_iff_eq.mpr c6
      clear c6
      by_cases c7:x5_1 < (l0_3.length:Int)
      ·
       rw [if_pos c7] at H
       have c7b0:decide (x5_1 < (l0_3.length:Int))=true:=decide_eq_true c7
       clear c7
       obtain ⟨bq8,hbq8⟩:∃ b_:Bool,b_=(rdOf false l0_3 x5_1):=⟨_,rfl⟩
       replace H:(if bq8=true then (cohousingref24_tenant.l0 k1 a1 (wrap64 (x5_1 + 1)) l0_0 l0_1 l0_2 l0_3 l0_4 l0_5) else (some x5_1))=some r:=by rw [← hbq8] at H;exact H
       have Nbq8:=zF hbq8
       clear hbq8
       by_cases c9:bq8=true
       ·
        subst c9
        have H1:(cohousingref24_tenant.l0 k1 a1 (wrap64 (x5_1 + 1)) l0_0 l0_1 l0_2 l0_3 l0_4 l0_5)=some r:=by rw [if_pos rfl] at H;exact H
        clear H
        have H:=H1
        clear H1
        have H':=zF H
        clear H
        have hcz10_0:wr.cell? ⟨gb159,0,none⟩=some (.slice A0_0 l0_0.length c0_0):=(blk_cell BK159.out 0).trans rfl
        have hcz10_1:wr.cell? ⟨gb159,1,none⟩=some (.slice A0_1 l0_1.length c0_1):=(blk_cell BK159.out 1).trans rfl
        have hcz10_2:wr.cell? ⟨gb159,2,none⟩=some (.slice A0_2 l0_2.length c0_2):=(blk_cell BK159.out 2).trans rfl
        have hcz10_3:wr.cell? ⟨gb159,3,none⟩=some (.slice A0_3 l0_3.length c0_3):=(blk_cell BK159.out 3).trans rfl
        have hcz10_4:wr.cell? ⟨gb159,4,none⟩=some (.slice A0_4 l0_4.length c0_4):=(blk_cell BK159.out 4).trans rfl
        have hcz10_5:wr.cell? ⟨gb159,5,none⟩=some (.slice A0_5 l0_5.length c0_5):=(blk_cell BK159.out 5).trans rfl
        have hfz10_0:=blk_frozen BK159.out 0
        have hfz10_1:=blk_frozen BK159.out 1
        have hfz10_2:=blk_frozen BK159.out 2
        have hfz10_3:=blk_frozen BK159.out 3
        have hfz10_4:=blk_frozen BK159.out 4
        have hfz10_5:=blk_frozen BK159.out 5
        have p160:0≤(x5_1:Int):=zE (by first|(with_reducible assumption)|assumption)
        have q160:x5_1 < (l0_1.length:Int):=zE (by first|(with_reducible assumption)|assumption)
        obtain ⟨ad160,A160_2,c160_2,e160,hx160_0,hx160_1,hx160_2,hl160_2,hi160_2⟩:=at_T41 HR0_1.out x5_1 p160 q160
        cases e160
        replace hx160_0:=(HB.out.cell (World.block_lt_of_cell? w _ hx160_0)).trans hx160_0
        replace hx160_1:=(HB.out.cell (World.block_lt_of_cell? w _ hx160_1)).trans hx160_1
        replace hx160_2:=(HB.out.cell (World.block_lt_of_cell? w _ hx160_2)).trans hx160_2
        have HR160_2:=zF hi160_2
        have HC160_2:=zF hl160_2
        clear hi160_2 hl160_2
        replace p160:=eq_true p160
        replace q160:=eq_true q160
        have p161:0≤(x5_1:Int):=zE (by first|(with_reducible assumption)|assumption)
        have q161:x5_1 < (l0_3.length:Int):=zE (by first|(with_reducible assumption)|assumption)
        obtain ⟨ad161,e161,hx161_0⟩:=Kd.at_bool HR0_3.out x5_1 p161 q161
        (try rw [← Nbq8.out] at hx161_0)
        cases e161
        replace hx161_0:=(HB.out.cell (World.block_lt_of_cell? w _ hx161_0)).trans hx161_0
        replace p161:=eq_true p161
        replace q161:=eq_true q161
        go_wp2
        go_roundg k1
        case measure=>have:=HK1.out;omega
        case rel=>exact ⟨(wrap64 (x5_1 + 1)),(by first|rfl|(simp;done)|(simp [*];done)),H',⟨by have:=HK1.out;omega⟩,⟨by (with_reducible repeat (first|refine blk_drewN ?_ _|refine blk_drew ?_|refine blk_alloc ?_ _));exact BK159.out⟩,⟨by repeat (first|(with_reducible first|exact HB.out|apply below_alloc|apply pw_below_drewN|apply below_drew1|refine below_set ?_ GE159.out)|exact HB.out)⟩⟩
       ·
        replace c9:=Bool.eq_false_iff.mpr c9
        subst c9
        have H1:(some x5_1)=some r:=by rw [if_neg (show ¬ (false=true) by decide)] at H;exact H
        clear H
        have H:=H1
        clear H1
        obtain rfl:=Option.some.inj H
        have hcz11_0:wr.cell? ⟨gb159,0,none⟩=some (.slice A0_0 l0_0.length c0_0):=(blk_cell BK159.out 0).trans rfl
        have hcz11_1:wr.cell? ⟨gb159,1,none⟩=some (.slice A0_1 l0_1.length c0_1):=(blk_cell BK159.out 1).trans rfl
        have hcz11_2:wr.cell? ⟨gb159,2,none⟩=some (.slice A0_2 l0_2.length c0_2):=(blk_cell BK159.out 2).trans rfl
        have hcz11_3:wr.cell? ⟨gb159,3,none⟩=some (.slice A0_3 l0_3.length c0_3):=(blk_cell BK159.out 3).trans rfl
        have hcz11_4:wr.cell? ⟨gb159,4,none⟩=some (.slice A0_4 l0_4.length c0_4):=(blk_cell BK159.out 4).trans rfl
        have hcz11_5:wr.cell? ⟨gb159,5,none⟩=some (.slice A0_5 l0_5.length c0_5):=(blk_cell BK159.out 5).trans rfl
        have hfz11_0:=blk_frozen BK159.out 0
        have hfz11_1:=blk_frozen BK159.out 1
        have hfz11_2:=blk_frozen BK159.out 2
        have hfz11_3:=blk_frozen BK159.out 3
        have hfz11_4:=blk_frozen BK159.out 4
        have hfz11_5:=blk_frozen BK159.out 5
        have p160:0≤(x5_1:Int):=zE (by first|(with_reducible assumption)|assumption)
        have q160:x5_1 < (l0_1.length:Int):=zE (by first|(with_reducible assumption)|assumption)
        obtain ⟨ad160,A160_2,c160_2,e160,hx160_0,hx160_1,hx160_2,hl160_2,hi160_2⟩:=at_T41 HR0_1.out x5_1 p160 q160
        cases e160
        replace hx160_0:=(HB.out.cell (World.block_lt_of_cell? w _ hx160_0)).trans hx160_0
        replace hx160_1:=(HB.out.cell (World.block_lt_of_cell? w _ hx160_1)).trans hx160_1
        replace hx160_2:=(HB.out.cell (World.block_lt_of_cell? w _ hx160_2)).trans hx160_2
        have HR160_2:=zF hi160_2
        have HC160_2:=zF hl160_2
        clear hi160_2 hl160_2
        replace p160:=eq_true p160
        replace q160:=eq_true q160
        have p161:0≤(x5_1:Int):=zE (by first|(with_reducible assumption)|assumption)
        have q161:x5_1 < (l0_3.length:Int):=zE (by first|(with_reducible assumption)|assumption)
        obtain ⟨ad161,e161,hx161_0⟩:=Kd.at_bool HR0_3.out x5_1 p161 q161
        (try rw [← Nbq8.out] at hx161_0)
        cases e161
        replace hx161_0:=(HB.out.cell (World.block_lt_of_cell? w _ hx161_0)).trans hx161_0
        replace p161:=eq_true p161
        replace q161:=eq_true q161
        go_wp2
        go_ret
        exact ⟨by first|rfl|(simp [errW_none,errW_some] <;> rfl)|(simp [*,errW_none,errW_some] <;> rfl),by repeat (first|(with_reducible first|exact HB.out|apply below_alloc|apply pw_below_drewN|apply below_drew1|refine below_set ?_ GE159.out)|exact HB.out)⟩
      ·
       rw [if_neg c7] at H
       exact absurd H (by simp)
     ·
      rw [if_neg c6] at H
      have c6b0:(((rd_T41 l0_1 x5_1).f1) == a1)=false:=beq_eq_false_iff_ne.mpr c6
      have c6b1:(((rd_T41 l0_1 x5_1).f1) != a1)=true:=bne_iff_ne.mpr c6
      have H':=zF H
      clear H
      have hcz12_0:wr.cell? ⟨gb159,0,none⟩=some (.slice A0_0 l0_0.length c0_0):=(blk_cell BK159.out 0).trans rfl
      have hcz12_1:wr.cell? ⟨gb159,1,none⟩=some (.slice A0_1 l0_1.length c0_1):=(blk_cell BK159.out 1).trans rfl
      have hcz12_2:wr.cell? ⟨gb159,2,none⟩=some (.slice A0_2 l0_2.length c0_2):=(blk_cell BK159.out 2).trans rfl
      have hcz12_3:wr.cell? ⟨gb159,3,none⟩=some (.slice A0_3 l0_3.length c0_3):=(blk_cell BK159.out 3).trans rfl
      have hcz12_4:wr.cell? ⟨gb159,4,none⟩=some (.slice A0_4 l0_4.length c0_4):=(blk_cell BK159.out 4).trans rfl
      have hcz12_5:wr.cell? ⟨gb159,5,none⟩=some (.slice A0_5 l0_5.length c0_5):=(blk_cell BK159.out 5).trans rfl
      have hfz12_0:=blk_frozen BK159.out 0
      have hfz12_1:=blk_frozen BK159.out 1
      have hfz12_2:=blk_frozen BK159.out 2
      have hfz12_3:=blk_frozen BK159.out 3
      have hfz12_4:=blk_frozen BK159.out 4
      have hfz12_5:=blk_frozen BK159.out 5
      have p160:0≤(x5_1:Int):=zE (by first|(with_reducible assumption)|assumption)
      have q160:x5_1 < (l0_1.length:Int):=zE (by first|(with_reducible assumption)|assumption)
      obtain ⟨ad160,A160_2,c160_2,e160,hx160_0,hx160_1,hx160_2,hl160_2,hi160_2⟩:=at_T41 HR0_1.out x5_1 p160 q160
      cases e160
      replace hx160_0:=(HB.out.cell (World.block_lt_of_cell? w _ hx160_0)).trans hx160_0
      replace hx160_1:=(HB.out.cell (World.block_lt_of_cell? w _ hx160_1)).trans hx160_1
      replace hx160_2:=(HB.out.cell (World.block_lt_of_cell? w _ hx160_2)).trans hx160_2
      have HR160_2:=zF hi160_2
      have HC160_2:=zF hl160_2
      clear hi160_2 hl160_2
      replace p160:=eq_true p160
      replace q160:=eq_true q160
      go_wp2
      go_roundg k1
      case measure=>have:=HK1.out;omega
      case rel=>exact ⟨(wrap64 (x5_1 + 1)),(by first|rfl|(simp;done)|(simp [*];done)),H',⟨by have:=HK1.out;omega⟩,⟨by (with_reducible repeat (first|refine blk_drewN ?_ _|refine blk_drew ?_|refine blk_alloc ?_ _));exact BK159.out⟩,⟨by repeat (first|(with_reducible first|exact HB.out|apply below_alloc|apply pw_below_drewN|apply below_drew1|refine below_set ?_ GE159.out)|exact HB.out)⟩⟩
    ·
     rw [if_neg c5] at H
     exact absurd H (by simp)
   ·
    rw [if_neg c4] at H
    have c4b0:decide (x5_1 < (l0_1.length:Int))=false:=decide_eq_false c4
    clear c4
    obtain rfl:=Option.some.inj H
    have hcz13_0:wr.cell? ⟨gb159,0,none⟩=some (.slice A0_0 l0_0.length c0_0):=(blk_cell BK159.out 0).trans rfl
    have hcz13_1:wr.cell? ⟨gb159,1,none⟩=some (.slice A0_1 l0_1.length c0_1):=(blk_cell BK159.out 1).trans rfl
    have hcz13_2:wr.cell? ⟨gb159,2,none⟩=some (.slice A0_2 l0_2.length c0_2):=(blk_cell BK159.out 2).trans rfl
    have hcz13_3:wr.cell? ⟨gb159,3,none⟩=some (.slice A0_3 l0_3.length c0_3):=(blk_cell BK159.out 3).trans rfl
    have hcz13_4:wr.cell? ⟨gb159,4,none⟩=some (.slice A0_4 l0_4.length c0_4):=(blk_cell BK159.out 4).trans rfl
    have hcz13_5:wr.cell? ⟨gb159,5,none⟩=some (.slice A0_5 l0_5.length c0_5):=(blk_cell BK159.out 5).trans rfl
    have hfz13_0:=blk_frozen BK159.out 0
    have hfz13_1:=blk_frozen BK159.out 1
    have hfz13_2:=blk_frozen BK159.out 2
    have hfz13_3:=blk_frozen BK159.out 3
    have hfz13_4:=blk_frozen BK159.out 4
    have hfz13_5:=blk_frozen BK159.out 5
    go_wp2
    go_ret
    exact ⟨by first|rfl|(simp [errW_none,errW_some] <;> rfl)|(simp [*,errW_none,errW_some] <;> rfl),by repeat (first|(with_reducible first|exact HB.out|apply below_alloc|apply pw_below_drewN|apply below_drew1|refine below_set ?_ GE159.out)|exact HB.out)⟩

end Go.Proofs.Ytjgnkhfgmpaljaa.P
namespace Go.Proofs.Ytjgnkhfgmpaljaa.P
open Go.RowKit Go.Proofs.YtjgnkhfgmpaljaaW.PrintWords Go.Proofs.YtjgnkhfgmpaljaaW.PrintLast Go.Proofs.YtjgnkhfgmpaljaaW.PrintMore
attribute [local go_sem] max2_int min2_int max_two min_two max_three min_three max_four min_four   -- for this text's walks alone
set_option linter.unusedVariables false
set_option linter.unusedSimpArgs false

def cohousingref24_first.l0:Nat→Int→List (S53)→List (S41)→List Int→List Bool→List Int→List Int→Option (Int)
 | 0,_,_,_,_,_,_,_=>none
 | k + 1,x3,x156000,x156001,x156002,x156003,x156004,x156005=>if x3 < (x156002.length:Int) then (if 0≤x3 then (if 0≤(rd x156002 x3) then (if (rd x156002 x3) < (x156003.length:Int) then (if (rdOf false x156003 (rd x156002 x3)=true) then (cohousingref24_first.l0 k (wrap64 (x3 + 1)) x156000 x156001 x156002 x156003 x156004 x156005) else (some (rd x156002 x3))) else (none)) else (none)) else (none)) else (some (-1))
def cohousingref24_first.f (k:Nat) (l0_0:List (S53)) (l0_1:List (S41)) (l0_2:List Int) (l0_3:List Bool) (l0_4:List Int) (l0_5:List Int):Option (Int):=cohousingref24_first.l0 k 0 l0_0 l0_1 l0_2 l0_3 l0_4 l0_5
theorem cohousingref24_first.mono_l:∀ k,(∀ y0 y1 y2 y3 y4 y5 y6,LeO (cohousingref24_first.l0 k y0 y1 y2 y3 y4 y5 y6) (cohousingref24_first.l0 (k + 1) y0 y1 y2 y3 y4 y5 y6))
 | 0=>fun _ _ _ _ _ _ _ r h=>by simp [cohousingref24_first.l0] at h
 | k + 1=>by
  have ih0:=cohousingref24_first.mono_l k
  ·
   intro y0 y1 y2 y3 y4 y5 y6
   unfold cohousingref24_first.l0
   repeat' first
   | (with_reducible exact ih0 _ _ _ _ _ _ _)
   | (with_reducible exact LeO.refl _)
   | (with_reducible exact LeO.none _)
   | (with_reducible refine LeO.ite ?_ ?_)
   | (with_reducible refine LeO.bind ?_ (fun _=>?_))
   | exact ih0 _ _ _ _ _ _ _
   | exact LeO.none _
   | refine LeO.ite ?_ ?_
   | refine LeO.bind ?_ (fun _=>?_)
theorem cohousingref24_first.mono:∀ a0 a1 a2 a3 a4 a5 k,LeO (cohousingref24_first.f k a0 a1 a2 a3 a4 a5) (cohousingref24_first.f (k + 1) a0 a1 a2 a3 a4 a5):=by
 intro a0 a1 a2 a3 a4 a5 k
 have ih0:=cohousingref24_first.mono_l k
 unfold cohousingref24_first.f
 repeat' first
   | (with_reducible exact ih0 _ _ _ _ _ _ _)
   | (with_reducible exact LeO.refl _)
   | (with_reducible exact LeO.none _)
   | (with_reducible refine LeO.ite ?_ ?_)
   | (with_reducible refine LeO.bind ?_ (fun _=>?_))
   | exact ih0 _ _ _ _ _ _ _
   | exact LeO.none _
   | refine LeO.ite ?_ ?_
   | refine LeO.bind ?_ (fun _=>?_)
set_option maxHeartbeats 8000000 in
set_option maxRecDepth 100000 in
theorem cohousingref24_first.calls (k:Nat) (A0_0:Option Addr) (c0_0:Nat) (l0_0:List (S53)) (A0_1:Option Addr) (c0_1:Nat) (l0_1:List (S41)) (A0_2:Option Addr) (c0_2:Nat) (l0_2:List Int) (A0_3:Option Addr) (c0_3:Nat) (l0_3:List Bool) (A0_4:Option Addr) (c0_4:Nat) (l0_4:List Int) (A0_5:Option Addr) (c0_5:Nat) (l0_5:List Int) (r:Int) (w:World) (hr0_0:Kd.C k53 w A0_0 l0_0.length l0_0) (hc0_0:l0_0.length≤c0_0) (hr0_1:Kd.C k41 w A0_1 l0_1.length l0_1) (hc0_1:l0_1.length≤c0_1) (hr0_2:Kd.C (Kd.int .i64) w A0_2 l0_2.length l0_2) (hc0_2:l0_2.length≤c0_2) (hr0_3:Kd.C Kd.bool w A0_3 l0_3.length l0_3) (hc0_3:l0_3.length≤c0_3) (hr0_4:Kd.C (Kd.int .i64) w A0_4 l0_4.length l0_4) (hc0_4:l0_4.length≤c0_4) (hr0_5:Kd.C (Kd.int .i64) w A0_5 l0_5.length l0_5) (hc0_5:l0_5.length≤c0_5) (h:cohousingref24_first.f k l0_0 l0_1 l0_2 l0_3 l0_4 l0_5=some r) :
  Calls Try.prog 48 #[.agg #[.slice A0_0 l0_0.length c0_0,.slice A0_1 l0_1.length c0_1,.slice A0_2 l0_2.length c0_2,.slice A0_3 l0_3.length c0_3,.slice A0_4 l0_4.length c0_4,.slice A0_5 l0_5.length c0_5]] w fun e w'=>e = .returned (.int .i64 r)∧Below w.heap.size w w':=by
 have hu81:=Try.underlying81
 have HR0_0:=zF hr0_0
 have HC0_0:=zF hc0_0
 clear hr0_0 hc0_0
 have HR0_1:=zF hr0_1
 have HC0_1:=zF hc0_1
 clear hr0_1 hc0_1
 have HR0_2:=zF hr0_2
 have HC0_2:=zF hc0_2
 clear hr0_2 hc0_2
 have HR0_3:=zF hr0_3
 have HC0_3:=zF hc0_3
 clear hr0_3 hc0_3
 have HR0_4:=zF hr0_4
 have HC0_4:=zF hc0_4
 clear hr0_4 hc0_4
 have HR0_5:=zF hr0_5
 have HC0_5:=zF hc0_5
 clear hr0_5 hc0_5
 have HB:=zF (Below.refl w.heap.size w)
 have H:(cohousingref24_first.l0 k 0 l0_0 l0_1 l0_2 l0_3 l0_4 l0_5)=some r:=h
 clear h
 have H':=zF H
 clear H
 go_enter Try.func48,Try.ntmps48
 go_wp2_with (first|((with_reducible refine gate_dst (N:=1) rfl ?_);refine box_event ?hg (N:=1) ?hd (cs:=#[.slice A0_0 l0_0.length c0_0,.slice A0_1 l0_1.length c0_1,.slice A0_2 l0_2.length c0_2,.slice A0_3 l0_3.length c0_3,.slice A0_4 l0_4.length c0_4,.slice A0_5 l0_5.length c0_5]) (t:=81) ?hr ?_;(case hd=>rfl);(case hg=>rfl);(case hr=>first|(go_simp;done)|(go_simp;rfl));intro gb155 hg w2 hbox hb;have n0_:=zF (below_step (by repeat (first|(with_reducible first|exact HB.out|apply below_alloc|apply pw_below_drewN|apply below_drew1)|exact HB.out)) hb);have n1_:=zF (hbox);have n2_:=zF ((by rw [hg];exact (below_size (by repeat (first|(with_reducible first|exact HB.out|apply below_alloc|apply pw_below_drewN|apply below_drew1)|exact HB.out))):w.heap.size≤gb155));have n3_:=zF ((by rw [hg];exact (below_size (by repeat (first|(with_reducible first|exact HB.out|apply below_alloc|apply pw_below_drewN|apply below_drew1)|exact HB.out))):w.heap.size≤gb155));clear HB;have HB:=n0_;have BK155:=n1_;have GW155:=n2_;have GE155:=n3_;clear n0_ n1_ n2_ n3_;clear hb hbox hg))
 repeat (go_quiet (first|((with_reducible refine gate_dst (N:=1) rfl ?_);refine box_event ?hg (N:=1) ?hd (cs:=#[.slice A0_0 l0_0.length c0_0,.slice A0_1 l0_1.length c0_1,.slice A0_2 l0_2.length c0_2,.slice A0_3 l0_3.length c0_3,.slice A0_4 l0_4.length c0_4,.slice A0_5 l0_5.length c0_5]) (t:=81) ?hr ?_;(case hd=>rfl);(case hg=>rfl);(case hr=>first|(go_simp;done)|(go_simp;rfl));intro gb155 hg w2 hbox hb;have n0_:=zF (below_step (by repeat (first|(with_reducible first|exact HB.out|apply below_alloc|apply pw_below_drewN|apply below_drew1)|exact HB.out)) hb);have n1_:=zF (hbox);have n2_:=zF ((by rw [hg];exact (below_size (by repeat (first|(with_reducible first|exact HB.out|apply below_alloc|apply pw_below_drewN|apply below_drew1)|exact HB.out))):w.heap.size≤gb155));have n3_:=zF ((by rw [hg];exact (below_size (by repeat (first|(with_reducible first|exact HB.out|apply below_alloc|apply pw_below_drewN|apply below_drew1)|exact HB.out))):w.heap.size≤gb155));clear HB;have HB:=n0_;have BK155:=n1_;have GW155:=n2_;have GE155:=n3_;clear n0_ n1_ n2_ n3_;clear hb hbox hg));try go_wp2_with (first|((with_reducible refine gate_dst (N:=1) rfl ?_);refine box_event ?hg (N:=1) ?hd (cs:=#[.slice A0_0 l0_0.length c0_0,.slice A0_1 l0_1.length c0_1,.slice A0_2 l0_2.length c0_2,.slice A0_3 l0_3.length c0_3,.slice A0_4 l0_4.length c0_4,.slice A0_5 l0_5.length c0_5]) (t:=81) ?hr ?_;(case hd=>rfl);(case hg=>rfl);(case hr=>first|(go_simp;done)|(go_simp;rfl));intro gb155 hg w2 hbox hb;have n0_:=zF (below_step (by repeat (first|(with_reducible first|exact HB.out|apply below_alloc|apply pw_below_drewN|apply below_drew1)|exact HB.out)) hb);have n1_:=zF (hbox);have n2_:=zF ((by rw [hg];exact (below_size (by repeat (first|(with_reducible first|exact HB.out|apply below_alloc|apply pw_below_drewN|apply below_drew1)|exact HB.out))):w.heap.size≤gb155));have n3_:=zF ((by rw [hg];exact (below_size (by repeat (first|(with_reducible first|exact HB.out|apply below_alloc|apply pw_below_drewN|apply below_drew1)|exact HB.out))):w.heap.size≤gb155));clear HB;have HB:=n0_;have BK155:=n1_;have GW155:=n2_;have GE155:=n3_;clear n0_ n1_ n2_ n3_;clear hb hbox hg)))
 go_loopg [3] k (fun kq v3 w'=>∃ (x3_1:Int),v3 = .int .i64 x3_1∧Aside0 (cohousingref24_first.l0 kq x3_1 l0_0 l0_1 l0_2 l0_3 l0_4 l0_5=some r)∧Aside0 (kq≤k)∧Aside0 (w'.heap[gb155]? = some (.cells #[(.slice A0_0 l0_0.length c0_0),(.slice A0_1 l0_1.length c0_1),(.slice A0_2 l0_2.length c0_2),(.slice A0_3 l0_3.length c0_3),(.slice A0_4 l0_4.length c0_4),(.slice A0_5 l0_5.length c0_5)] 81 (0,0)))∧Aside0 (Below w.heap.size w w'))
 case atStart=>exact ⟨(0),(by first|rfl|(simp;done)|(simp [*];done)),H',⟨Nat.le_refl _⟩,⟨by (with_reducible repeat (first|refine blk_drewN ?_ _|refine blk_drew ?_|refine blk_alloc ?_ _));exact BK155.out⟩,⟨by repeat (first|(with_reducible first|exact HB.out|apply below_alloc|apply pw_below_drewN|apply below_drew1|refine below_set ?_ GE155.out)|exact HB.out)⟩⟩
 case round =>
  clear H'
  try clear p2
  obtain ⟨x3_1,rfl,HA,HK1,BK155,HB⟩:=hrel
  cases gk with
  | zero=>exact absurd HA.out (by simp [cohousingref24_first.l0])
  | succ k1 =>
   have H:=HA.out
   clear HA
   simp only [cohousingref24_first.l0] at H
   by_cases c3:x3_1 < (l0_2.length:Int)
   ·
    rw [if_pos c3] at H
    have c3b0:decide (x3_1 < (l0_2.length:Int))=true:=decide_eq_true c3
    clear c3
    by_cases c4:0≤x3_1
    ·
     rw [if_pos c4] at H
     have c4b0:decide (0≤x3_1)=true:=decide_eq_true c4
     clear c4
     by_cases c5:0≤(rd l0_2 x3_1)
     ·
      rw [if_pos c5] at H
      have c5b0:decide (0≤(rd l0_2 x3_1))=true:=decide_eq_true c5
      clear c5
      by_cases c6:(rd l0_2 x3_1) < (l0_3.length:Int)
      ·
       rw [if_pos c6] at H
       have c6b0:decide ((rd l0_2 x3_1) < (l0_3.length:Int))=true:=decide_eq_true c6
       clear c6
       obtain ⟨bq7,hbq7⟩:∃ b_:Bool,b_=(rdOf false l0_3 (rd l0_2 x3_1)):=⟨_,rfl⟩
       replace H:(if (bq7=true) then (cohousingref24_first.l0 k1 (wrap64 (x3_1 + 1)) l0_0 l0_1 l0_2 l0_3 l0_4 l0_5) else (some (rd l0_2 x3_1)))=some r:=by rw [← hbq7] at H;exact H
       have Nbq7:=zF hbq7
       clear hbq7
       by_cases c8:(bq7=true)
       ·
        subst c8
        have H1:(cohousingref24_first.l0 k1 (wrap64 (x3_1 + 1)) l0_0 l0_1 l0_2 l0_3 l0_4 l0_5)=some r:=by rw [if_pos rfl] at H;exact H
        clear H
        have H:=H1
        clear H1
        have H':=zF H
        clear H
        have hcz9_0:wr.cell? ⟨gb155,0,none⟩=some (.slice A0_0 l0_0.length c0_0):=(blk_cell BK155.out 0).trans rfl
        have hcz9_1:wr.cell? ⟨gb155,1,none⟩=some (.slice A0_1 l0_1.length c0_1):=(blk_cell BK155.out 1).trans rfl
        have hcz9_2:wr.cell? ⟨gb155,2,none⟩=some (.slice A0_2 l0_2.length c0_2):=(blk_cell BK155.out 2).trans rfl
        have hcz9_3:wr.cell? ⟨gb155,3,none⟩=some (.slice A0_3 l0_3.length c0_3):=(blk_cell BK155.out 3).trans rfl
        have hcz9_4:wr.cell? ⟨gb155,4,none⟩=some (.slice A0_4 l0_4.length c0_4):=(blk_cell BK155.out 4).trans rfl
        have hcz9_5:wr.cell? ⟨gb155,5,none⟩=some (.slice A0_5 l0_5.length c0_5):=(blk_cell BK155.out 5).trans rfl
        have hfz9_0:=blk_frozen BK155.out 0
        have hfz9_1:=blk_frozen BK155.out 1
        have hfz9_2:=blk_frozen BK155.out 2
        have hfz9_3:=blk_frozen BK155.out 3
        have hfz9_4:=blk_frozen BK155.out 4
        have hfz9_5:=blk_frozen BK155.out 5
        have p156:0≤(x3_1:Int):=zE (by first|(with_reducible assumption)|assumption)
        have q156:x3_1 < (l0_2.length:Int):=zE (by first|(with_reducible assumption)|assumption)
        obtain ⟨ad156,e156,hx156_0⟩:=Kd.at_int HR0_2.out x3_1 p156 q156
        cases e156
        replace hx156_0:=(HB.out.cell (World.block_lt_of_cell? w _ hx156_0)).trans hx156_0
        replace p156:=eq_true p156
        replace q156:=eq_true q156
        have p157:0≤((rd l0_2 x3_1):Int):=zE (by first|(with_reducible assumption)|assumption)
        have q157:(rd l0_2 x3_1) < (l0_3.length:Int):=zE (by first|(with_reducible assumption)|assumption)
        obtain ⟨ad157,e157,hx157_0⟩:=Kd.at_bool HR0_3.out (rd l0_2 x3_1) p157 q157
        (try rw [← Nbq7.out] at hx157_0)
        cases e157
        replace hx157_0:=(HB.out.cell (World.block_lt_of_cell? w _ hx157_0)).trans hx157_0
        replace p157:=eq_true p157
        replace q157:=eq_true q157
        go_wp2
        repeat (go_quiet (fail);try go_wp2)
        go_roundg k1
        case measure=>have:=HK1.out;omega
        case rel=>exact ⟨(wrap64 (x3_1 + 1)),(by first|rfl|(simp;done)|(simp [*];done)),H',⟨by have:=HK1.out;omega⟩,⟨by (with_reducible repeat (first|refine blk_drewN ?_ _|refine blk_drew ?_|refine blk_alloc ?_ _));exact BK155.out⟩,⟨by repeat (first|(with_reducible first|exact HB.out|apply below_alloc|apply pw_below_drewN|apply below_drew1|refine below_set ?_ GE155.out)|exact HB.out)⟩⟩
       ·
        replace c8:=Bool.eq_false_iff.mpr c8
        subst c8
        have H1:(some (rd l0_2 x3_1))=some r:=by rw [if_neg (show ¬ (false=true) by decide)] at H;exact H
        clear H
        have H:=H1
        clear H1
        obtain rfl:=Option.some.inj H
        have hcz10_0:wr.cell? ⟨gb155,0,none⟩=some (.slice A0_0 l0_0.length c0_0):=(blk_cell BK155.out 0).trans rfl
        have hcz10_1:wr.cell? ⟨gb155,1,none⟩=some (.slice A0_1 l0_1.length c0_1):=(blk_cell BK155.out 1).trans rfl
        have hcz10_2:wr.cell? ⟨gb155,2,none⟩=some (.slice A0_2 l0_2.length c0_2):=(blk_cell BK155.out 2).trans rfl
        have hcz10_3:wr.cell? ⟨gb155,3,none⟩=some (.slice A0_3 l0_3.length c0_3):=(blk_cell BK155.out 3).trans rfl
        have hcz10_4:wr.cell? ⟨gb155,4,none⟩=some (.slice A0_4 l0_4.length c0_4):=(blk_cell BK155.out 4).trans rfl
        have hcz10_5:wr.cell? ⟨gb155,5,none⟩=some (.slice A0_5 l0_5.length c0_5):=(blk_cell BK155.out 5).trans rfl
        have hfz10_0:=blk_frozen BK155.out 0
        have hfz10_1:=blk_frozen BK155.out 1
        have hfz10_2:=blk_frozen BK155.out 2
        have hfz10_3:=blk_frozen BK155.out 3
        have hfz10_4:=blk_frozen BK155.out 4
        have hfz10_5:=blk_frozen BK155.out 5
        have p156:0≤(x3_1:Int):=zE (by first|(with_reducible assumption)|assumption)
        have q156:x3_1 < (l0_2.length:Int):=zE (by first|(with_reducible assumption)|assumption)
        obtain ⟨ad156,e156,hx156_0⟩:=Kd.at_int HR0_2.out x3_1 p156 q156
        cases e156
        replace hx156_0:=(HB.out.cell (World.block_lt_of_cell? w _ hx156_0)).trans hx156_0
        replace p156:=eq_true p156
        replace q156:=eq_true q156
        have p157:0≤((rd l0_2 x3_1):Int):=zE (by first|(with_reducible assumption)|assumption)
        have q157:(rd l0_2 x3_1) < (l0_3.length:Int):=zE (by first|(with_reducible assumption)|assumption)
        obtain ⟨ad157,e157,hx157_0⟩:=Kd.at_bool HR0_3.out (rd l0_2 x3_1) p157 q157
        (try rw [← Nbq7.out] at hx157_0)
        cases e157
        replace hx157_0:=(HB.out.cell (World.block_lt_of_cell? w _ hx157_0)).trans hx157_0
        replace p157:=eq_true p157
        replace q157:=eq_true q157
        have p158:0≤(x3_1:Int):=zE (by first|(with_reducible assumption)|assumption)
        have q158:x3_1 < (l0_2.length:Int):=zE (by first|(with_reducible assumption)|assumption)
        obtain ⟨ad158,e158,hx158_0⟩:=Kd.at_int HR0_2.out x3_1 p158 q158
        obtain rfl:ad156=ad158:=(by injection e158)
        replace hx158_0:=(HB.out.cell (World.block_lt_of_cell? w _ hx158_0)).trans hx158_0
        replace p158:=eq_true p158
        replace q158:=eq_true q158
        go_wp2
        repeat (go_quiet (fail);try go_wp2)
        go_ret
        exact ⟨by first|rfl|(simp [errW_none,errW_some] <;> rfl)|(simp [*,errW_none,errW_some] <;> rfl),by repeat (first|(with_reducible first|exact HB.out|apply below_alloc|apply pw_below_drewN|apply below_drew1|refine below_set ?_ GE155.out)|exact HB.out)⟩
      ·
       rw [if_neg c6] at H
       exact absurd H (by simp)
     ·
      rw [if_neg c5] at H
      exact absurd H (by simp)
    ·
     rw [if_neg c4] at H
     exact absurd H (by simp)
   ·
    rw [if_neg c3] at H
    have c3b0:decide (x3_1 < (l0_2.length:Int))=false:=decide_eq_false c3
    clear c3
    obtain rfl:=Option.some.inj H
    have hcz11_0:wr.cell? ⟨gb155,0,none⟩=some (.slice A0_0 l0_0.length c0_0):=(blk_cell BK155.out 0).trans rfl
    have hcz11_1:wr.cell? ⟨gb155,1,none⟩=some (.slice A0_1 l0_1.length c0_1):=(blk_cell BK155.out 1).trans rfl
    have hcz11_2:wr.cell? ⟨gb155,2,none⟩=some (.slice A0_2 l0_2.length c0_2):=(blk_cell BK155.out 2).trans rfl
    have hcz11_3:wr.cell? ⟨gb155,3,none⟩=some (.slice A0_3 l0_3.length c0_3):=(blk_cell BK155.out 3).trans rfl
    have hcz11_4:wr.cell? ⟨gb155,4,none⟩=some (.slice A0_4 l0_4.length c0_4):=(blk_cell BK155.out 4).trans rfl
    have hcz11_5:wr.cell? ⟨gb155,5,none⟩=some (.slice A0_5 l0_5.length c0_5):=(blk_cell BK155.out 5).trans rfl
    have hfz11_0:=blk_frozen BK155.out 0
    have hfz11_1:=blk_frozen BK155.out 1
    have hfz11_2:=blk_frozen BK155.out 2
    have hfz11_3:=blk_frozen BK155.out 3
    have hfz11_4:=blk_frozen BK155.out 4
    have hfz11_5:=blk_frozen BK155.out 5
    go_wp2
    repeat (go_quiet (fail);try go_wp2)
    go_ret
    exact ⟨by first|rfl|(simp [errW_none,errW_some] <;> rfl)|(simp [*,errW_none,errW_some] <;> rfl),by repeat (first|(with_reducible first|exact HB.out|apply below_alloc|apply pw_below_drewN|apply below_drew1|refine below_set ?_ GE155.out)|exact HB.out)⟩

end Go.Proofs.Ytjgnkhfgmpaljaa.P
namespace Go.Proofs.Ytjgnkhfgmpaljaa.P
open Go.RowKit Go.Proofs.YtjgnkhfgmpaljaaW.PrintWords Go.Proofs.YtjgnkhfgmpaljaaW.PrintLast Go.Proofs.YtjgnkhfgmpaljaaW.PrintMore
attribute [local go_sem] max2_int min2_int max_two min_two max_three min_three max_four min_four   -- for this text's walks alone
set_option linter.unusedVariables false
set_option linter.unusedSimpArgs false

def cohousingref24_owner.f (k:Nat) (l0_0:List (S53)) (l0_1:List (S41)) (l0_2:List Int) (l0_3:List Bool) (l0_4:List Int) (l0_5:List Int) (a1:Int):Option (Int):=(cohousingref24_tenant.f k l0_0 l0_1 l0_2 l0_3 l0_4 l0_5 a1).bind fun t163=>(if t163 ≥ 0 then (some t163) else ((cohousingref24_first.f k l0_0 l0_1 l0_2 l0_3 l0_4 l0_5).bind fun t164=>(some t164)))
theorem cohousingref24_owner.mono:∀ a0 a1 a2 a3 a4 a5 a6 k,LeO (cohousingref24_owner.f k a0 a1 a2 a3 a4 a5 a6) (cohousingref24_owner.f (k + 1) a0 a1 a2 a3 a4 a5 a6):=by
 intro a0 a1 a2 a3 a4 a5 a6 k
 unfold cohousingref24_owner.f
 repeat' first
   | (with_reducible exact cohousingref24_first.mono _ _ _ _ _ _ _)
   | (with_reducible exact cohousingref24_tenant.mono _ _ _ _ _ _ _ _)
   | (with_reducible exact LeO.refl _)
   | (with_reducible exact LeO.none _)
   | (with_reducible refine LeO.ite ?_ ?_)
   | (with_reducible refine LeO.bind ?_ (fun _=>?_))
   | exact cohousingref24_first.mono _ _ _ _ _ _ _
   | exact cohousingref24_tenant.mono _ _ _ _ _ _ _ _
   | exact LeO.none _
   | refine LeO.ite ?_ ?_
   | refine LeO.bind ?_ (fun _=>?_)
set_option maxHeartbeats 8000000 in
set_option maxRecDepth 100000 in
theorem cohousingref24_owner.calls (k:Nat) (A0_0:Option Addr) (c0_0:Nat) (l0_0:List (S53)) (A0_1:Option Addr) (c0_1:Nat) (l0_1:List (S41)) (A0_2:Option Addr) (c0_2:Nat) (l0_2:List Int) (A0_3:Option Addr) (c0_3:Nat) (l0_3:List Bool) (A0_4:Option Addr) (c0_4:Nat) (l0_4:List Int) (A0_5:Option Addr) (c0_5:Nat) (l0_5:List Int) (a1:Int) (r:Int) (w:World) (hr0_0:Kd.C k53 w A0_0 l0_0.length l0_0) (hc0_0:l0_0.length≤c0_0) (hr0_1:Kd.C k41 w A0_1 l0_1.length l0_1) (hc0_1:l0_1.length≤c0_1) (hr0_2:Kd.C (Kd.int .i64) w A0_2 l0_2.length l0_2) (hc0_2:l0_2.length≤c0_2) (hr0_3:Kd.C Kd.bool w A0_3 l0_3.length l0_3) (hc0_3:l0_3.length≤c0_3) (hr0_4:Kd.C (Kd.int .i64) w A0_4 l0_4.length l0_4) (hc0_4:l0_4.length≤c0_4) (hr0_5:Kd.C (Kd.int .i64) w A0_5 l0_5.length l0_5) (hc0_5:l0_5.length≤c0_5) (h:cohousingref24_owner.f k l0_0 l0_1 l0_2 l0_3 l0_4 l0_5 a1=some r) :
  Calls Try.prog 77 #[.agg #[.slice A0_0 l0_0.length c0_0,.slice A0_1 l0_1.length c0_1,.slice A0_2 l0_2.length c0_2,.slice A0_3 l0_3.length c0_3,.slice A0_4 l0_4.length c0_4,.slice A0_5 l0_5.length c0_5],.int .i64 a1] w fun e w'=>e = .returned (.int .i64 r)∧Below w.heap.size w w':=by
 have hu81:=Try.underlying81
 have HR0_0:=zF hr0_0
 have HC0_0:=zF hc0_0
 clear hr0_0 hc0_0
 have HR0_1:=zF hr0_1
 have HC0_1:=zF hc0_1
 clear hr0_1 hc0_1
 have HR0_2:=zF hr0_2
 have HC0_2:=zF hc0_2
 clear hr0_2 hc0_2
 have HR0_3:=zF hr0_3
 have HC0_3:=zF hc0_3
 clear hr0_3 hc0_3
 have HR0_4:=zF hr0_4
 have HC0_4:=zF hc0_4
 clear hr0_4 hc0_4
 have HR0_5:=zF hr0_5
 have HC0_5:=zF hc0_5
 clear hr0_5 hc0_5
 have HB:=zF (Below.refl w.heap.size w)
 have H:((cohousingref24_tenant.f k l0_0 l0_1 l0_2 l0_3 l0_4 l0_5 a1).bind fun t163=>(if t163 ≥ 0 then (some t163) else ((cohousingref24_first.f k l0_0 l0_1 l0_2 l0_3 l0_4 l0_5).bind fun t164=>(some t164))))=some r:=h
 clear h
 replace H:=Option.bind_eq_some_iff.mp H
 obtain ⟨t163,A30,H⟩:=H
 replace H:(if t163 ≥ 0 then (some t163) else ((cohousingref24_first.f k l0_0 l0_1 l0_2 l0_3 l0_4 l0_5).bind fun t164=>(some t164)))=some r:=H
 have A3:=zF A30
 clear A30
 by_cases c4:t163 ≥ 0
 ·
  rw [if_pos c4] at H
  have c4b0:decide (0≤t163)=true:=decide_eq_true c4
  clear c4
  obtain rfl:=Option.some.inj H
  go_enter Try.func77,Try.ntmps77
  go_wp2_with (first|((with_reducible refine gate_dst (N:=2) rfl ?_);refine box_event ?hg (N:=2) ?hd (cs:=#[.slice A0_0 l0_0.length c0_0,.slice A0_1 l0_1.length c0_1,.slice A0_2 l0_2.length c0_2,.slice A0_3 l0_3.length c0_3,.slice A0_4 l0_4.length c0_4,.slice A0_5 l0_5.length c0_5]) (t:=81) ?hr ?_;(case hd=>rfl);(case hg=>rfl);(case hr=>first|(go_simp;done)|(go_simp;rfl));intro gb162 hg w5 hbox hb;have n0_:=zF (below_step (by repeat (first|(with_reducible first|exact HB.out|apply below_alloc|apply pw_below_drewN|apply below_drew1)|exact HB.out)) hb);have n1_:=zF (hbox);have n2_:=zF ((by rw [hg];exact (below_size (by repeat (first|(with_reducible first|exact HB.out|apply below_alloc|apply pw_below_drewN|apply below_drew1)|exact HB.out))):w.heap.size≤gb162));have n3_:=zF ((by rw [hg];exact (below_size (by repeat (first|(with_reducible first|exact HB.out|apply below_alloc|apply pw_below_drewN|apply below_drew1)|exact HB.out))):w.heap.size≤gb162));clear HB;have HB:=n0_;have BK162:=n1_;have GW162:=n2_;have GE162:=n3_;clear n0_ n1_ n2_ n3_;clear hb hbox hg;have hcz6_0:w5.cell? ⟨gb162,0,none⟩=some (.slice A0_0 l0_0.length c0_0):=(blk_cell BK162.out 0).trans rfl;have hcz6_1:w5.cell? ⟨gb162,1,none⟩=some (.slice A0_1 l0_1.length c0_1):=(blk_cell BK162.out 1).trans rfl;have hcz6_2:w5.cell? ⟨gb162,2,none⟩=some (.slice A0_2 l0_2.length c0_2):=(blk_cell BK162.out 2).trans rfl;have hcz6_3:w5.cell? ⟨gb162,3,none⟩=some (.slice A0_3 l0_3.length c0_3):=(blk_cell BK162.out 3).trans rfl;have hcz6_4:w5.cell? ⟨gb162,4,none⟩=some (.slice A0_4 l0_4.length c0_4):=(blk_cell BK162.out 4).trans rfl;have hcz6_5:w5.cell? ⟨gb162,5,none⟩=some (.slice A0_5 l0_5.length c0_5):=(blk_cell BK162.out 5).trans rfl;have hfz6_0:=blk_frozen BK162.out 0;have hfz6_1:=blk_frozen BK162.out 1;have hfz6_2:=blk_frozen BK162.out 2;have hfz6_3:=blk_frozen BK162.out 3;have hfz6_4:=blk_frozen BK162.out 4;have hfz6_5:=blk_frozen BK162.out 5)|((with_reducible refine gate_callee (f:=78) rfl ?_);refine goesL_ (some 8) rfl rfl Try.func78 (by kernel_rfl) rfl #[.agg #[.slice A0_0 l0_0.length c0_0,.slice A0_1 l0_1.length c0_1,.slice A0_2 l0_2.length c0_2,.slice A0_3 l0_3.length c0_3,.slice A0_4 l0_4.length c0_4,.slice A0_5 l0_5.length c0_5],.int .i64 a1] rfl (by (try simp only [List.map_toArray,List.map_cons,List.map_nil]);first|done|rfl|(simp only [List.length_drop,List.length_take];rfl)) ?_;(with_reducible refine (cohousingref24_tenant.calls k _ _ l0_0 _ _ l0_1 _ _ l0_2 _ _ l0_3 _ _ l0_4 _ _ l0_5 a1 t163 _ ?side1 ?side2 ?side3 ?side4 ?side5 ?side6 ?side7 ?side8 ?side9 ?side10 ?side11 ?side12 A3.out).mono ?_);(case side1=>repeat (first|exact (Kd.C_below HR0_0.out HB.out)|(with_reducible refine Kd.C_alloc ?_ _)|(with_reducible refine Kd.C_drewN ?_ _)|(with_reducible refine Kd.C_drew ?_)));(case side2=>exact HC0_0.out);(case side3=>repeat (first|exact (Kd.C_below HR0_1.out HB.out)|(with_reducible refine Kd.C_alloc ?_ _)|(with_reducible refine Kd.C_drewN ?_ _)|(with_reducible refine Kd.C_drew ?_)));(case side4=>exact HC0_1.out);(case side5=>repeat (first|exact (Kd.C_below HR0_2.out HB.out)|(with_reducible refine Kd.C_alloc ?_ _)|(with_reducible refine Kd.C_drewN ?_ _)|(with_reducible refine Kd.C_drew ?_)));(case side6=>exact HC0_2.out);(case side7=>repeat (first|exact (Kd.C_below HR0_3.out HB.out)|(with_reducible refine Kd.C_alloc ?_ _)|(with_reducible refine Kd.C_drewN ?_ _)|(with_reducible refine Kd.C_drew ?_)));(case side8=>exact HC0_3.out);(case side9=>repeat (first|exact (Kd.C_below HR0_4.out HB.out)|(with_reducible refine Kd.C_alloc ?_ _)|(with_reducible refine Kd.C_drewN ?_ _)|(with_reducible refine Kd.C_drew ?_)));(case side10=>exact HC0_4.out);(case side11=>repeat (first|exact (Kd.C_below HR0_5.out HB.out)|(with_reducible refine Kd.C_alloc ?_ _)|(with_reducible refine Kd.C_drewN ?_ _)|(with_reducible refine Kd.C_drew ?_)));(case side12=>exact HC0_5.out);rintro e w7 ⟨rfl,hb⟩;refine ⟨_,rfl,?_⟩;have n0_:=zF (blk_below (g:=gb162) (o:=.cells #[.slice A0_0 l0_0.length c0_0,.slice A0_1 l0_1.length c0_1,.slice A0_2 l0_2.length c0_2,.slice A0_3 l0_3.length c0_3,.slice A0_4 l0_4.length c0_4,.slice A0_5 l0_5.length c0_5] 81 (0,0)) (by (with_reducible repeat (first|refine blk_drewN ?_ _|refine blk_drew ?_|refine blk_alloc ?_ _));exact BK162.out) hb);have n1_:=zF (below_step (by repeat (first|(with_reducible first|exact HB.out|apply below_alloc|apply pw_below_drewN|apply below_drew1|refine below_set ?_ GE162.out)|exact HB.out)) hb);clear BK162;clear HB;have BK162:=n0_;have HB:=n1_;clear n0_ n1_;(try clear hb);(try clear hb2);(try clear hk);(try clear hi)))
  go_ret
  exact ⟨by first|rfl|(simp [errW_none,errW_some] <;> rfl)|(simp [*,errW_none,errW_some] <;> rfl),by repeat (first|(with_reducible first|exact HB.out|apply below_alloc|apply pw_below_drewN|apply below_drew1|refine below_set ?_ GE162.out)|exact HB.out)⟩
 ·
  rw [if_neg c4] at H
  have c4b0:decide (0≤t163)=false:=decide_eq_false c4
  clear c4
  replace H:=Option.bind_eq_some_iff.mp H
  obtain ⟨t164,A80,H⟩:=H
  replace H:(some t164)=some r:=H
  have A8:=zF A80
  clear A80
  obtain rfl:=Option.some.inj H
  go_enter Try.func77,Try.ntmps77
  go_wp2_with (first|((with_reducible refine gate_dst (N:=2) rfl ?_);refine box_event ?hg (N:=2) ?hd (cs:=#[.slice A0_0 l0_0.length c0_0,.slice A0_1 l0_1.length c0_1,.slice A0_2 l0_2.length c0_2,.slice A0_3 l0_3.length c0_3,.slice A0_4 l0_4.length c0_4,.slice A0_5 l0_5.length c0_5]) (t:=81) ?hr ?_;(case hd=>rfl);(case hg=>rfl);(case hr=>first|(go_simp;done)|(go_simp;rfl));intro gb162 hg w9 hbox hb;have n0_:=zF (below_step (by repeat (first|(with_reducible first|exact HB.out|apply below_alloc|apply pw_below_drewN|apply below_drew1)|exact HB.out)) hb);have n1_:=zF (hbox);have n2_:=zF ((by rw [hg];exact (below_size (by repeat (first|(with_reducible first|exact HB.out|apply below_alloc|apply pw_below_drewN|apply below_drew1)|exact HB.out))):w.heap.size≤gb162));have n3_:=zF ((by rw [hg];exact (below_size (by repeat (first|(with_reducible first|exact HB.out|apply below_alloc|apply pw_below_drewN|apply below_drew1)|exact HB.out))):w.heap.size≤gb162));clear HB;have HB:=n0_;have BK162:=n1_;have GW162:=n2_;have GE162:=n3_;clear n0_ n1_ n2_ n3_;clear hb hbox hg;have hcz10_0:w9.cell? ⟨gb162,0,none⟩=some (.slice A0_0 l0_0.length c0_0):=(blk_cell BK162.out 0).trans rfl;have hcz10_1:w9.cell? ⟨gb162,1,none⟩=some (.slice A0_1 l0_1.length c0_1):=(blk_cell BK162.out 1).trans rfl;have hcz10_2:w9.cell? ⟨gb162,2,none⟩=some (.slice A0_2 l0_2.length c0_2):=(blk_cell BK162.out 2).trans rfl;have hcz10_3:w9.cell? ⟨gb162,3,none⟩=some (.slice A0_3 l0_3.length c0_3):=(blk_cell BK162.out 3).trans rfl;have hcz10_4:w9.cell? ⟨gb162,4,none⟩=some (.slice A0_4 l0_4.length c0_4):=(blk_cell BK162.out 4).trans rfl;have hcz10_5:w9.cell? ⟨gb162,5,none⟩=some (.slice A0_5 l0_5.length c0_5):=(blk_cell BK162.out 5).trans rfl;have hfz10_0:=blk_frozen BK162.out 0;have hfz10_1:=blk_frozen BK162.out 1;have hfz10_2:=blk_frozen BK162.out 2;have hfz10_3:=blk_frozen BK162.out 3;have hfz10_4:=blk_frozen BK162.out 4;have hfz10_5:=blk_frozen BK162.out 5)|((with_reducible refine gate_callee (f:=78) rfl ?_);refine goesL_ (some 8) rfl rfl Try.func78 (by kernel_rfl) rfl #[.agg #[.slice A0_0 l0_0.length c0_0,.slice A0_1 l0_1.length c0_1,.slice A0_2 l0_2.length c0_2,.slice A0_3 l0_3.length c0_3,.slice A0_4 l0_4.length c0_4,.slice A0_5 l0_5.length c0_5],.int .i64 a1] rfl (by (try simp only [List.map_toArray,List.map_cons,List.map_nil]);first|done|rfl|(simp only [List.length_drop,List.length_take];rfl)) ?_;(with_reducible refine (cohousingref24_tenant.calls k _ _ l0_0 _ _ l0_1 _ _ l0_2 _ _ l0_3 _ _ l0_4 _ _ l0_5 a1 t163 _ ?side1 ?side2 ?side3 ?side4 ?side5 ?side6 ?side7 ?side8 ?side9 ?side10 ?side11 ?side12 A3.out).mono ?_);(case side1=>repeat (first|exact (Kd.C_below HR0_0.out HB.out)|(with_reducible refine Kd.C_alloc ?_ _)|(with_reducible refine Kd.C_drewN ?_ _)|(with_reducible refine Kd.C_drew ?_)));(case side2=>exact HC0_0.out);(case side3=>repeat (first|exact (Kd.C_below HR0_1.out HB.out)|(with_reducible refine Kd.C_alloc ?_ _)|(with_reducible refine Kd.C_drewN ?_ _)|(with_reducible refine Kd.C_drew ?_)));(case side4=>exact HC0_1.out);(case side5=>repeat (first|exact (Kd.C_below HR0_2.out HB.out)|(with_reducible refine Kd.C_alloc ?_ _)|(with_reducible refine Kd.C_drewN ?_ _)|(with_reducible refine Kd.C_drew ?_)));(case side6=>exact HC0_2.out);(case side7=>repeat (first|exact (Kd.C_below HR0_3.out HB.out)|(with_reducible refine Kd.C_alloc ?_ _)|(with_reducible refine Kd.C_drewN ?_ _)|(with_reducible refine Kd.C_drew ?_)));(case side8=>exact HC0_3.out);(case side9=>repeat (first|exact (Kd.C_below HR0_4.out HB.out)|(with_reducible refine Kd.C_alloc ?_ _)|(with_reducible refine Kd.C_drewN ?_ _)|(with_reducible refine Kd.C_drew ?_)));(case side10=>exact HC0_4.out);(case side11=>repeat (first|exact (Kd.C_below HR0_5.out HB.out)|(with_reducible refine Kd.C_alloc ?_ _)|(with_reducible refine Kd.C_drewN ?_ _)|(with_reducible refine Kd.C_drew ?_)));(case side12=>exact HC0_5.out);rintro e w11 ⟨rfl,hb⟩;refine ⟨_,rfl,?_⟩;have n0_:=zF (blk_below (g:=gb162) (o:=.cells #[.slice A0_0 l0_0.length c0_0,.slice A0_1 l0_1.length c0_1,.slice A0_2 l0_2.length c0_2,.slice A0_3 l0_3.length c0_3,.slice A0_4 l0_4.length c0_4,.slice A0_5 l0_5.length c0_5] 81 (0,0)) (by (with_reducible repeat (first|refine blk_drewN ?_ _|refine blk_drew ?_|refine blk_alloc ?_ _));exact BK162.out) hb);have n1_:=zF (below_step (by repeat (first|(with_reducible first|exact HB.out|apply below_alloc|apply pw_below_drewN|apply below_drew1|refine below_set ?_ GE162.out)|exact HB.out)) hb);clear BK162;clear HB;have BK162:=n0_;have HB:=n1_;clear n0_ n1_;(try clear hb);(try clear hb2);(try clear hk);(try clear hi);have hcz12_0:w11.cell? ⟨gb162,0,none⟩=some (.slice A0_0 l0_0.length c0_0):=(blk_cell BK162.out 0).trans rfl;have hcz12_1:w11.cell? ⟨gb162,1,none⟩=some (.slice A0_1 l0_1.length c0_1):=(blk_cell BK162.out 1).trans rfl;have hcz12_2:w11.cell? ⟨gb162,2,none⟩=some (.slice A0_2 l0_2.length c0_2):=(blk_cell BK162.out 2).trans rfl;have hcz12_3:w11.cell? ⟨gb162,3,none⟩=some (.slice A0_3 l0_3.length c0_3):=(blk_cell BK162.out 3).trans rfl;have hcz12_4:w11.cell? ⟨gb162,4,none⟩=some (.slice A0_4 l0_4.length c0_4):=(blk_cell BK162.out 4).trans rfl;have hcz12_5:w11.cell? ⟨gb162,5,none⟩=some (.slice A0_5 l0_5.length c0_5):=(blk_cell BK162.out 5).trans rfl;have hfz12_0:=blk_frozen BK162.out 0;have hfz12_1:=blk_frozen BK162.out 1;have hfz12_2:=blk_frozen BK162.out 2;have hfz12_3:=blk_frozen BK162.out 3;have hfz12_4:=blk_frozen BK162.out 4;have hfz12_5:=blk_frozen BK162.out 5)|((with_reducible refine gate_callee (f:=48) rfl ?_);refine goesL_ (some 13) rfl rfl Try.func48 (by kernel_rfl) rfl #[.agg #[.slice A0_0 l0_0.length c0_0,.slice A0_1 l0_1.length c0_1,.slice A0_2 l0_2.length c0_2,.slice A0_3 l0_3.length c0_3,.slice A0_4 l0_4.length c0_4,.slice A0_5 l0_5.length c0_5]] rfl (by (try simp only [List.map_toArray,List.map_cons,List.map_nil]);first|done|rfl|(simp only [List.length_drop,List.length_take];rfl)) ?_;(with_reducible refine (cohousingref24_first.calls k _ _ l0_0 _ _ l0_1 _ _ l0_2 _ _ l0_3 _ _ l0_4 _ _ l0_5 t164 _ ?side1 ?side2 ?side3 ?side4 ?side5 ?side6 ?side7 ?side8 ?side9 ?side10 ?side11 ?side12 A8.out).mono ?_);(case side1=>repeat (first|exact (Kd.C_below HR0_0.out HB.out)|(with_reducible refine Kd.C_alloc ?_ _)|(with_reducible refine Kd.C_drewN ?_ _)|(with_reducible refine Kd.C_drew ?_)));(case side2=>exact HC0_0.out);(case side3=>repeat (first|exact (Kd.C_below HR0_1.out HB.out)|(with_reducible refine Kd.C_alloc ?_ _)|(with_reducible refine Kd.C_drewN ?_ _)|(with_reducible refine Kd.C_drew ?_)));(case side4=>exact HC0_1.out);(case side5=>repeat (first|exact (Kd.C_below HR0_2.out HB.out)|(with_reducible refine Kd.C_alloc ?_ _)|(with_reducible refine Kd.C_drewN ?_ _)|(with_reducible refine Kd.C_drew ?_)));(case side6=>exact HC0_2.out);(case side7=>repeat (first|exact (Kd.C_below HR0_3.out HB.out)|(with_reducible refine Kd.C_alloc ?_ _)|(with_reducible refine Kd.C_drewN ?_ _)|(with_reducible refine Kd.C_drew ?_)));(case side8=>exact HC0_3.out);(case side9=>repeat (first|exact (Kd.C_below HR0_4.out HB.out)|(with_reducible refine Kd.C_alloc ?_ _)|(with_reducible refine Kd.C_drewN ?_ _)|(with_reducible refine Kd.C_drew ?_)));(case side10=>exact HC0_4.out);(case side11=>repeat (first|exact (Kd.C_below HR0_5.out HB.out)|(with_reducible refine Kd.C_alloc ?_ _)|(with_reducible refine Kd.C_drewN ?_ _)|(with_reducible refine Kd.C_drew ?_)));(case side12=>exact HC0_5.out);rintro e w13 ⟨rfl,hb⟩;refine ⟨_,rfl,?_⟩;have n0_:=zF (blk_below (g:=gb162) (o:=.cells #[.slice A0_0 l0_0.length c0_0,.slice A0_1 l0_1.length c0_1,.slice A0_2 l0_2.length c0_2,.slice A0_3 l0_3.length c0_3,.slice A0_4 l0_4.length c0_4,.slice A0_5 l0_5.length c0_5] 81 (0,0)) (by (with_reducible repeat (first|refine blk_drewN ?_ _|refine blk_drew ?_|refine blk_alloc ?_ _));exact BK162.out) hb);have n1_:=zF (below_step (by repeat (first|(with_reducible first|exact HB.out|apply below_alloc|apply pw_below_drewN|apply below_drew1|refine below_set ?_ GE162.out)|exact HB.out)) hb);clear BK162;clear HB;have BK162:=n0_;have HB:=n1_;clear n0_ n1_;(try clear hb);(try clear hb2);(try clear hk);(try clear hi)))
  go_ret
  exact ⟨by first|rfl|(simp [errW_none,errW_some] <;> rfl)|(simp [*,errW_none,errW_some] <;> rfl),by repeat (first|(with_reducible first|exact HB.out|apply below_alloc|apply pw_below_drewN|apply below_drew1|refine below_set ?_ GE162.out)|exact HB.out)⟩

end Go.Proofs.Ytjgnkhfgmpaljaa.P
namespace Go.Proofs.Ytjgnkhfgmpaljaa.P
open Go.RowKit Go.Proofs.YtjgnkhfgmpaljaaW.PrintWords Go.Proofs.YtjgnkhfgmpaljaaW.PrintLast Go.Proofs.YtjgnkhfgmpaljaaW.PrintMore
attribute [local go_sem] max2_int min2_int max_two min_two max_three min_three max_four min_four   -- for this text's walks alone
set_option linter.unusedVariables false
set_option linter.unusedSimpArgs false

def cohousingref24_cycle.l0:Nat→Int→List Int→Int→List (S53)→List (S41)→List Int→List Bool→List Int→List Int→Option (List Int)
 | 0,_,_,_,_,_,_,_,_,_=>none
 | k + 1,x1,x5,x6,x166000,x166001,x166002,x166003,x166004,x166005=>if x6=x1 then (some x5) else ((cohousingref23_In.f k x5 x6).bind fun t171=>(if t171 ≥ 0 then (some ([]:List Int)) else (if x5.length < 17592186044416 then ((cohousingref24_best.f k x166000 x166001 x166002 x166003 x166004 x166005 x6).bind fun t175=>((cohousingref24_owner.f k x166000 x166001 x166002 x166003 x166004 x166005 t175).bind fun t176=>(cohousingref24_cycle.l0 k x1 (x5 ++ [x6]) t176 x166000 x166001 x166002 x166003 x166004 x166005))) else (none))))
def cohousingref24_cycle.f (k:Nat) (l0_0:List (S53)) (l0_1:List (S41)) (l0_2:List Int) (l0_3:List Bool) (l0_4:List Int) (l0_5:List Int) (a1:Int):Option (List Int):=(cohousingref24_best.f k l0_0 l0_1 l0_2 l0_3 l0_4 l0_5 a1).bind fun t169=>((cohousingref24_owner.f k l0_0 l0_1 l0_2 l0_3 l0_4 l0_5 t169).bind fun t170=>(cohousingref24_cycle.l0 k a1 (([a1]:List Int)) t170 l0_0 l0_1 l0_2 l0_3 l0_4 l0_5))
theorem cohousingref24_cycle.mono_l:∀ k,(∀ y0 y1 y2 y3 y4 y5 y6 y7 y8,LeO (cohousingref24_cycle.l0 k y0 y1 y2 y3 y4 y5 y6 y7 y8) (cohousingref24_cycle.l0 (k + 1) y0 y1 y2 y3 y4 y5 y6 y7 y8))
 | 0=>fun _ _ _ _ _ _ _ _ _ r h=>by simp [cohousingref24_cycle.l0] at h
 | k + 1=>by
  have ih0:=cohousingref24_cycle.mono_l k
  ·
   intro y0 y1 y2 y3 y4 y5 y6 y7 y8
   unfold cohousingref24_cycle.l0
   repeat' first
   | (with_reducible exact ih0 _ _ _ _ _ _ _ _ _)
   | (with_reducible exact cohousingref23_In.mono _ _ _)
   | (with_reducible exact cohousingref24_best.mono _ _ _ _ _ _ _ _)
   | (with_reducible exact cohousingref24_owner.mono _ _ _ _ _ _ _ _)
   | (with_reducible exact LeO.refl _)
   | (with_reducible exact LeO.none _)
   | (with_reducible refine LeO.ite ?_ ?_)
   | (with_reducible refine LeO.bind ?_ (fun _=>?_))
   | exact ih0 _ _ _ _ _ _ _ _ _
   | exact cohousingref23_In.mono _ _ _
   | exact cohousingref24_best.mono _ _ _ _ _ _ _ _
   | exact cohousingref24_owner.mono _ _ _ _ _ _ _ _
   | exact LeO.none _
   | refine LeO.ite ?_ ?_
   | refine LeO.bind ?_ (fun _=>?_)
theorem cohousingref24_cycle.mono:∀ a0 a1 a2 a3 a4 a5 a6 k,LeO (cohousingref24_cycle.f k a0 a1 a2 a3 a4 a5 a6) (cohousingref24_cycle.f (k + 1) a0 a1 a2 a3 a4 a5 a6):=by
 intro a0 a1 a2 a3 a4 a5 a6 k
 have ih0:=cohousingref24_cycle.mono_l k
 unfold cohousingref24_cycle.f
 repeat' first
   | (with_reducible exact ih0 _ _ _ _ _ _ _ _ _)
   | (with_reducible exact cohousingref23_In.mono _ _ _)
   | (with_reducible exact cohousingref24_best.mono _ _ _ _ _ _ _ _)
   | (with_reducible exact cohousingref24_owner.mono _ _ _ _ _ _ _ _)
   | (with_reducible exact LeO.refl _)
   | (with_reducible exact LeO.none _)
   | (with_reducible refine LeO.ite ?_ ?_)
   | (with_reducible refine LeO.bind ?_ (fun _=>?_))
   | exact ih0 _ _ _ _ _ _ _ _ _
   | exact cohousingref23_In.mono _ _ _
   | exact cohousingref24_best.mono _ _ _ _ _ _ _ _
   | exact cohousingref24_owner.mono _ _ _ _ _ _ _ _
   | exact LeO.none _
   | refine LeO.ite ?_ ?_
   | refine LeO.bind ?_ (fun _=>?_)
set_option maxHeartbeats 8000000 in
set_option maxRecDepth 100000 in
theorem cohousingref24_cycle.calls (k:Nat) (A0_0:Option Addr) (c0_0:Nat) (l0_0:List (S53)) (A0_1:Option Addr) (c0_1:Nat) (l0_1:List (S41)) (A0_2:Option Addr) (c0_2:Nat) (l0_2:List Int) (A0_3:Option Addr) (c0_3:Nat) (l0_3:List Bool) (A0_4:Option Addr) (c0_4:Nat) (l0_4:List Int) (A0_5:Option Addr) (c0_5:Nat) (l0_5:List Int) (a1:Int) (r:List Int) (w:World) (hr0_0:Kd.C k53 w A0_0 l0_0.length l0_0) (hc0_0:l0_0.length≤c0_0) (hr0_1:Kd.C k41 w A0_1 l0_1.length l0_1) (hc0_1:l0_1.length≤c0_1) (hr0_2:Kd.C (Kd.int .i64) w A0_2 l0_2.length l0_2) (hc0_2:l0_2.length≤c0_2) (hr0_3:Kd.C Kd.bool w A0_3 l0_3.length l0_3) (hc0_3:l0_3.length≤c0_3) (hr0_4:Kd.C (Kd.int .i64) w A0_4 l0_4.length l0_4) (hc0_4:l0_4.length≤c0_4) (hr0_5:Kd.C (Kd.int .i64) w A0_5 l0_5.length l0_5) (hc0_5:l0_5.length≤c0_5) (h:cohousingref24_cycle.f k l0_0 l0_1 l0_2 l0_3 l0_4 l0_5 a1=some r) :
  Calls Try.prog 49 #[.agg #[.slice A0_0 l0_0.length c0_0,.slice A0_1 l0_1.length c0_1,.slice A0_2 l0_2.length c0_2,.slice A0_3 l0_3.length c0_3,.slice A0_4 l0_4.length c0_4,.slice A0_5 l0_5.length c0_5],.int .i64 a1] w fun e w'=>∃ v0_:Value,e = .returned (v0_)∧Kd.R (Kd.int .i64) 3 w' w.heap.size (fun _=>True) v0_ r∧Below w.heap.size w w':=by
 have hu81:=Try.underlying81
 have HR0_0:=zF hr0_0
 have HC0_0:=zF hc0_0
 clear hr0_0 hc0_0
 have HR0_1:=zF hr0_1
 have HC0_1:=zF hc0_1
 clear hr0_1 hc0_1
 have HR0_2:=zF hr0_2
 have HC0_2:=zF hc0_2
 clear hr0_2 hc0_2
 have HR0_3:=zF hr0_3
 have HC0_3:=zF hc0_3
 clear hr0_3 hc0_3
 have HR0_4:=zF hr0_4
 have HC0_4:=zF hc0_4
 clear hr0_4 hc0_4
 have HR0_5:=zF hr0_5
 have HC0_5:=zF hc0_5
 clear hr0_5 hc0_5
 have HB:=zF (Below.refl w.heap.size w)
 have H:((cohousingref24_best.f k l0_0 l0_1 l0_2 l0_3 l0_4 l0_5 a1).bind fun t169=>((cohousingref24_owner.f k l0_0 l0_1 l0_2 l0_3 l0_4 l0_5 t169).bind fun t170=>(cohousingref24_cycle.l0 k a1 (([a1]:List Int)) t170 l0_0 l0_1 l0_2 l0_3 l0_4 l0_5)))=some r:=h
 clear h
 obtain ⟨y166,hy166⟩:∃ y_:List Int,y_=(([a1]:List Int)):=⟨_,rfl⟩
 replace H:((cohousingref24_best.f k l0_0 l0_1 l0_2 l0_3 l0_4 l0_5 a1).bind fun t169=>((cohousingref24_owner.f k l0_0 l0_1 l0_2 l0_3 l0_4 l0_5 t169).bind fun t170=>(cohousingref24_cycle.l0 k a1 y166 t170 l0_0 l0_1 l0_2 l0_3 l0_4 l0_5)))=some r:=by first|(rw [hy166];with_reducible exact H)|(have H2_:=(Option.bind_some _ _).symm.trans H;rw [hy166];with_reducible exact H2_)|(have H2_:=(Option.bind_some _ _).symm.trans H;with_reducible exact H2_)|with_reducible exact H|(rw [hy166];exact H)|exact H
 have Ny166:=zF hy166
 clear hy166
 replace H:=Option.bind_eq_some_iff.mp H
 obtain ⟨t169,A30,H⟩:=H
 replace H:((cohousingref24_owner.f k l0_0 l0_1 l0_2 l0_3 l0_4 l0_5 t169).bind fun t170=>(cohousingref24_cycle.l0 k a1 y166 t170 l0_0 l0_1 l0_2 l0_3 l0_4 l0_5))=some r:=H
 have A3:=zF A30
 clear A30
 replace H:=Option.bind_eq_some_iff.mp H
 obtain ⟨t170,A40,H⟩:=H
 replace H:(cohousingref24_cycle.l0 k a1 y166 t170 l0_0 l0_1 l0_2 l0_3 l0_4 l0_5)=some r:=H
 have A4:=zF A40
 clear A40
 have H':=zF H
 clear H
 go_enter Try.func49,Try.ntmps49
 try go_wp2_with (first|((with_reducible refine gate_dst (N:=2) rfl ?_);refine box_event ?hg (N:=2) ?hd (cs:=#[.slice A0_0 l0_0.length c0_0,.slice A0_1 l0_1.length c0_1,.slice A0_2 l0_2.length c0_2,.slice A0_3 l0_3.length c0_3,.slice A0_4 l0_4.length c0_4,.slice A0_5 l0_5.length c0_5]) (t:=81) ?hr ?_;(case hd=>rfl);(case hg=>rfl);(case hr=>first|(go_simp;done)|(go_simp;rfl));intro gb165 hg w5 hbox hb;have n0_:=zF (below_step (by repeat (first|(with_reducible first|exact HB.out|apply below_alloc|apply pw_below_drewN|apply below_drew1)|exact HB.out)) hb);have n1_:=zF (hbox);have n2_:=zF ((by rw [hg];exact (below_size (by repeat (first|(with_reducible first|exact HB.out|apply below_alloc|apply pw_below_drewN|apply below_drew1)|exact HB.out))):w.heap.size≤gb165));have n3_:=zF ((by rw [hg];exact (below_size (by repeat (first|(with_reducible first|exact HB.out|apply below_alloc|apply pw_below_drewN|apply below_drew1)|exact HB.out))):w.heap.size≤gb165));clear HB;have HB:=n0_;have BK165:=n1_;have GW165:=n2_;have GE165:=n3_;clear n0_ n1_ n2_ n3_;clear hb hbox hg)|((with_reducible refine gate_dst (N:=8) rfl ?_);refine Kd.R_lit (Kd.int .i64) _ 3 ?hg (N:=8) ?hd (xs:=([a1]:List Int)) (inner:=[.int .i64 a1]) (ok:=fun _=>True) (okp:=fun _=>True) ?hr ?hp (fun _ hk=>hk) trivial (Below.refl _ _) (Nat.le_refl _) (by simp) ?_;(case hd=>rfl);(case hg=>rfl);(case hr=>first|(go_simp;done)|(go_simp;rfl));(case hp=>exact (Reps.one (show Kd.M (Kd.int .i64) _ _ _ a1 [.int .i64 a1] from rfl) (Reps.none _ _)));intro v167 w6 ho7 hb hg_ hnew_;clear hg_ hnew_;(first|rw [← Ny166.out] at ho7|(simp only [Int.reduceToNat] at ho7;rw [← Ny166.out] at ho7));have n0_:=zF (Kd.R_lower ho7 (below_size (by repeat (first|(with_reducible first|exact HB.out|apply below_alloc|apply pw_below_drewN|apply below_drew1|refine below_set ?_ GE165.out)|exact HB.out))));have n1_:=zF (blk_below (g:=gb165) (o:=.cells #[.slice A0_0 l0_0.length c0_0,.slice A0_1 l0_1.length c0_1,.slice A0_2 l0_2.length c0_2,.slice A0_3 l0_3.length c0_3,.slice A0_4 l0_4.length c0_4,.slice A0_5 l0_5.length c0_5] 81 (0,0)) (by (with_reducible repeat (first|refine blk_drewN ?_ _|refine blk_drew ?_|refine blk_alloc ?_ _));exact BK165.out) hb);have n2_:=zF (below_step (by repeat (first|(with_reducible first|exact HB.out|apply below_alloc|apply pw_below_drewN|apply below_drew1|refine below_set ?_ GE165.out)|exact HB.out)) hb);clear BK165;clear HB;have HO168:=n0_;have BK165:=n1_;have HB:=n2_;clear n0_ n1_ n2_;clear hb ho7))
 have n0_:=zF (Kd.R_drew HO168.out)
 have n1_:=zF (blk_drew BK165.out)
 have n2_:=zF (below_drew1 HB.out)
 clear HO168 BK165 HB
 have HO168:=n0_
 have BK165:=n1_
 have HB:=n2_
 clear n0_ n1_ n2_
 refine start_ (n:=6) (S:=fun w'=>w'.cell? ⟨gb165,0,none⟩=some (.slice A0_0 l0_0.length c0_0)∧w'.cell? ⟨gb165,1,none⟩=some (.slice A0_1 l0_1.length c0_1)∧w'.cell? ⟨gb165,2,none⟩=some (.slice A0_2 l0_2.length c0_2)∧w'.cell? ⟨gb165,3,none⟩=some (.slice A0_3 l0_3.length c0_3)∧w'.cell? ⟨gb165,4,none⟩=some (.slice A0_4 l0_4.length c0_4)∧w'.cell? ⟨gb165,5,none⟩=some (.slice A0_5 l0_5.length c0_5)) (ds:=[]) #[false,false,false,false,false,false] (by kernel_rfl) rfl rfl ⟨(blk_cell BK165.out 0).trans rfl,(blk_cell BK165.out 1).trans rfl,(blk_cell BK165.out 2).trans rfl,(blk_cell BK165.out 3).trans rfl,(blk_cell BK165.out 4).trans rfl,(blk_cell BK165.out 5).trans rfl⟩ (fun hHeld=>?_)
 generalize w6.drew=w8 at HO168 BK165 HB hHeld ⊢
 refine pure_ (i:=2) (N:=some 11) (v:=?_) (a':=?_) #[false,false,true,false,false,false] rfl rfl (by kernel_rfl) (fun _ _ _ h=>h) (Or.inl ⟨by rfl,?_⟩) ?_ ?_
 rotate_left
 ·
  intro w'
  go_simp
  with_reducible rfl
 rotate_left
 ·
  simp only [Act.put,zA,zB,zC,i64_w,i32_w]
  rfl
 refine take_ (i:=0) (N:=some 9) (v:=?_) (a':=?_) #[true,false,true,false,false,false] rfl rfl (by kernel_rfl) (fun _ _ _ h=>h) (Or.inl ⟨by rfl,?_⟩) hHeld ?_ ?_
 rotate_left
 ·
  rintro w' ⟨s0,s1,s2,s3,s4,s5⟩
  go_simp
  with_reducible rfl
 rotate_left
 ·
  simp only [Act.put,zA,zB,zC,i64_w,i32_w]
  rfl
 refine take_ (i:=1) (N:=some 10) (v:=?_) (a':=?_) #[true,true,true,false,false,false] rfl rfl (by kernel_rfl) (fun _ _ _ h=>h) (Or.inl ⟨by rfl,?_⟩) hHeld ?_ ?_
 rotate_left
 ·
  rintro w' ⟨s0,s1,s2,s3,s4,s5⟩
  go_simp
  with_reducible rfl
 rotate_left
 ·
  simp only [Act.put,zA,zB,zC,i64_w,i32_w]
  rfl
 refine one_ (i:=3) (N:=some 12) #[true,true,true,true,false,false] rfl rfl (by kernel_rfl) (by decide) (fun K hK=>?_)
 refine goes_ Try.func52 (by kernel_rfl) rfl #[.agg #[.slice A0_0 l0_0.length c0_0,.slice A0_1 l0_1.length c0_1,.slice A0_2 l0_2.length c0_2,.slice A0_3 l0_3.length c0_3,.slice A0_4 l0_4.length c0_4,.slice A0_5 l0_5.length c0_5],.int .i64 a1] (by rfl) rfl rfl (by (try simp only [List.map_toArray,List.map_cons,List.map_nil]);first|done|rfl|(simp only [List.length_drop,List.length_take];rfl)) ?_
 with_reducible refine (cohousingref24_best.calls k _ _ l0_0 _ _ l0_1 _ _ l0_2 _ _ l0_3 _ _ l0_4 _ _ l0_5 a1 t169 _ ?side1 ?side2 ?side3 ?side4 ?side5 ?side6 ?side7 ?side8 ?side9 ?side10 ?side11 ?side12 A3.out).mono ?_
 (case side1=>repeat (first|exact (Kd.C_below HR0_0.out HB.out)|(with_reducible refine Kd.C_alloc ?_ _)|(with_reducible refine Kd.C_drewN ?_ _)|(with_reducible refine Kd.C_drew ?_)))
 (case side2=>exact HC0_0.out)
 (case side3=>repeat (first|exact (Kd.C_below HR0_1.out HB.out)|(with_reducible refine Kd.C_alloc ?_ _)|(with_reducible refine Kd.C_drewN ?_ _)|(with_reducible refine Kd.C_drew ?_)))
 (case side4=>exact HC0_1.out)
 (case side5=>repeat (first|exact (Kd.C_below HR0_2.out HB.out)|(with_reducible refine Kd.C_alloc ?_ _)|(with_reducible refine Kd.C_drewN ?_ _)|(with_reducible refine Kd.C_drew ?_)))
 (case side6=>exact HC0_2.out)
 (case side7=>repeat (first|exact (Kd.C_below HR0_3.out HB.out)|(with_reducible refine Kd.C_alloc ?_ _)|(with_reducible refine Kd.C_drewN ?_ _)|(with_reducible refine Kd.C_drew ?_)))
 (case side8=>exact HC0_3.out)
 (case side9=>repeat (first|exact (Kd.C_below HR0_4.out HB.out)|(with_reducible refine Kd.C_alloc ?_ _)|(with_reducible refine Kd.C_drewN ?_ _)|(with_reducible refine Kd.C_drew ?_)))
 (case side10=>exact HC0_4.out)
 (case side11=>repeat (first|exact (Kd.C_below HR0_5.out HB.out)|(with_reducible refine Kd.C_alloc ?_ _)|(with_reducible refine Kd.C_drewN ?_ _)|(with_reducible refine Kd.C_drew ?_)))
 (case side12=>exact HC0_5.out)
 rintro e w9 ⟨rfl,hb⟩
 refine ⟨_,rfl,?_⟩
 have n0_:=zF (Kd.R_below (by (with_reducible repeat (first|apply Kd.R_alloc|apply Kd.R_drewN|apply Kd.R_drew));exact HO168.out) hb)
 have n1_:=zF (blk_below (g:=gb165) (o:=.cells #[.slice A0_0 l0_0.length c0_0,.slice A0_1 l0_1.length c0_1,.slice A0_2 l0_2.length c0_2,.slice A0_3 l0_3.length c0_3,.slice A0_4 l0_4.length c0_4,.slice A0_5 l0_5.length c0_5] 81 (0,0)) (by (with_reducible repeat (first|refine blk_drewN ?_ _|refine blk_drew ?_|refine blk_alloc ?_ _));exact BK165.out) hb)
 have n2_:=zF (below_step (by repeat (first|(with_reducible first|exact HB.out|apply below_alloc|apply pw_below_drewN|apply below_drew1|refine below_set ?_ GE165.out)|exact HB.out)) hb)
 clear HO168 BK165 HB
 have HO168:=n0_
 have BK165:=n1_
 have HB:=n2_
 clear n0_ n1_ n2_
 (try clear hb)
 (try clear hb2)
 (try clear hk)
 (try clear hi)
 refine hK.out _ _ ⟨(blk_cell BK165.out 0).trans rfl,(blk_cell BK165.out 1).trans rfl,(blk_cell BK165.out 2).trans rfl,(blk_cell BK165.out 3).trans rfl,(blk_cell BK165.out 4).trans rfl,(blk_cell BK165.out 5).trans rfl⟩ (fun hHeld=>?_)
 clear hK K
 refine norm_ (a':=?_) ?_ ?_
 rotate_left
 ·
  show Act.put _ (some 12) _=_
  simp only [Act.put,zA,zB,zC,i64_w,i32_w]
  rfl
 refine one_ (i:=4) (N:=some 13) #[true,true,true,true,true,false] rfl rfl (by kernel_rfl) (by decide) (fun K hK=>?_)
 refine goes_ Try.func77 (by kernel_rfl) rfl #[.agg #[.slice A0_0 l0_0.length c0_0,.slice A0_1 l0_1.length c0_1,.slice A0_2 l0_2.length c0_2,.slice A0_3 l0_3.length c0_3,.slice A0_4 l0_4.length c0_4,.slice A0_5 l0_5.length c0_5],.int .i64 t169] (by rfl) rfl rfl (by (try simp only [List.map_toArray,List.map_cons,List.map_nil]);first|done|rfl|(simp only [List.length_drop,List.length_take];rfl)) ?_
 with_reducible refine (cohousingref24_owner.calls k _ _ l0_0 _ _ l0_1 _ _ l0_2 _ _ l0_3 _ _ l0_4 _ _ l0_5 t169 t170 _ ?side1 ?side2 ?side3 ?side4 ?side5 ?side6 ?side7 ?side8 ?side9 ?side10 ?side11 ?side12 A4.out).mono ?_
 (case side1=>repeat (first|exact (Kd.C_below HR0_0.out HB.out)|(with_reducible refine Kd.C_alloc ?_ _)|(with_reducible refine Kd.C_drewN ?_ _)|(with_reducible refine Kd.C_drew ?_)))
 (case side2=>exact HC0_0.out)
 (case side3=>repeat (first|exact (Kd.C_below HR0_1.out HB.out)|(with_reducible refine Kd.C_alloc ?_ _)|(with_reducible refine Kd.C_drewN ?_ _)|(with_reducible refine Kd.C_drew ?_)))
 (case side4=>exact HC0_1.out)
 (case side5=>repeat (first|exact (Kd.C_below HR0_2.out HB.out)|(with_reducible refine Kd.C_alloc ?_ _)|(with_reducible refine Kd.C_drewN ?_ _)|(with_reducible refine Kd.C_drew ?_)))
 (case side6=>exact HC0_2.out)
 (case side7=>repeat (first|exact (Kd.C_below HR0_3.out HB.out)|(with_reducible refine Kd.C_alloc ?_ _)|(with_reducible refine Kd.C_drewN ?_ _)|(with_reducible refine Kd.C_drew ?_)))
 (case side8=>exact HC0_3.out)
 (case side9=>repeat (first|exact (Kd.C_below HR0_4.out HB.out)|(with_reducible refine Kd.C_alloc ?_ _)|(with_reducible refine Kd.C_drewN ?_ _)|(with_reducible refine Kd.C_drew ?_)))
 (case side10=>exact HC0_4.out)
 (case side11=>repeat (first|exact (Kd.C_below HR0_5.out HB.out)|(with_reducible refine Kd.C_alloc ?_ _)|(with_reducible refine Kd.C_drewN ?_ _)|(with_reducible refine Kd.C_drew ?_)))
 (case side12=>exact HC0_5.out)
 rintro e w10 ⟨rfl,hb⟩
 refine ⟨_,rfl,?_⟩
 have n0_:=zF (Kd.R_below (by (with_reducible repeat (first|apply Kd.R_alloc|apply Kd.R_drewN|apply Kd.R_drew));exact HO168.out) hb)
 have n1_:=zF (blk_below (g:=gb165) (o:=.cells #[.slice A0_0 l0_0.length c0_0,.slice A0_1 l0_1.length c0_1,.slice A0_2 l0_2.length c0_2,.slice A0_3 l0_3.length c0_3,.slice A0_4 l0_4.length c0_4,.slice A0_5 l0_5.length c0_5] 81 (0,0)) (by (with_reducible repeat (first|refine blk_drewN ?_ _|refine blk_drew ?_|refine blk_alloc ?_ _));exact BK165.out) hb)
 have n2_:=zF (below_step (by repeat (first|(with_reducible first|exact HB.out|apply below_alloc|apply pw_below_drewN|apply below_drew1|refine below_set ?_ GE165.out)|exact HB.out)) hb)
 clear HO168 BK165 HB
 have HO168:=n0_
 have BK165:=n1_
 have HB:=n2_
 clear n0_ n1_ n2_
 (try clear hb)
 (try clear hb2)
 (try clear hk)
 (try clear hi)
 refine hK.out _ _ ⟨(blk_cell BK165.out 0).trans rfl,(blk_cell BK165.out 1).trans rfl,(blk_cell BK165.out 2).trans rfl,(blk_cell BK165.out 3).trans rfl,(blk_cell BK165.out 4).trans rfl,(blk_cell BK165.out 5).trans rfl⟩ (fun hHeld=>?_)
 clear hK K
 refine norm_ (a':=?_) ?_ ?_
 rotate_left
 ·
  show Act.put _ (some 13) _=_
  simp only [Act.put,zA,zB,zC,i64_w,i32_w]
  rfl
 refine pure_ (i:=5) (N:=some 6) (v:=?_) (a':=?_) #[true,true,true,true,true,true] rfl rfl (by kernel_rfl) (fun _ _ _ h=>h) (Or.inl ⟨by rfl,?_⟩) ?_ ?_
 rotate_left
 ·
  intro w'
  go_simp
  with_reducible rfl
 rotate_left
 ·
  simp only [Act.put,zA,zB,zC,i64_w,i32_w]
  rfl
 refine done_ (by kernel_rfl) ?_
 try go_wp2
 go_loopg [5,6] k (fun kq v5 v6 w'=>∃ (x5_1:List Int) (x6_1:Int),v6 = .int .i64 x6_1∧Aside0 (cohousingref24_cycle.l0 kq a1 x5_1 x6_1 l0_0 l0_1 l0_2 l0_3 l0_4 l0_5=some r)∧Aside0 (kq≤k)∧Aside0 (Kd.R (Kd.int .i64) 3 w' w.heap.size (fun _=>True) v5 x5_1)∧Aside0 (w'.heap[gb165]? = some (.cells #[(.slice A0_0 l0_0.length c0_0),(.slice A0_1 l0_1.length c0_1),(.slice A0_2 l0_2.length c0_2),(.slice A0_3 l0_3.length c0_3),(.slice A0_4 l0_4.length c0_4),(.slice A0_5 l0_5.length c0_5)] 81 (0,0)))∧Aside0 (Below w.heap.size w w'))
 case atStart=>exact ⟨(y166),(t170),(by first|rfl|(simp;done)|(simp [*];done)),H',⟨Nat.le_refl _⟩,⟨by (with_reducible repeat (first|apply Kd.R_alloc|apply Kd.R_drewN|apply Kd.R_drew));exact HO168.out⟩,⟨by (with_reducible repeat (first|refine blk_drewN ?_ _|refine blk_drew ?_|refine blk_alloc ?_ _));exact BK165.out⟩,⟨by repeat (first|(with_reducible first|exact HB.out|apply below_alloc|apply pw_below_drewN|apply below_drew1|refine below_set ?_ GE165.out)|exact HB.out)⟩⟩
 case round =>
  clear H'
  try clear p2
  try clear c4
  try clear c5
  try clear c7
  obtain ⟨x5_1,x6_1,rfl,HA,HK1,HO_5,BK165,HB⟩:=hrel
  cases gk with
  | zero=>exact absurd HA.out (by simp [cohousingref24_cycle.l0])
  | succ k1 =>
   have H:=HA.out
   clear HA
   simp only [cohousingref24_cycle.l0] at H
   by_cases c11:x6_1=a1
   ·
    rw [if_pos c11] at H
    have c11b0:(x6_1 == a1)=true:=beq_iff_eq.mpr c11
    have c11b1:(x6_1 != a1)=false:=bne_eq_false_iff_eq.mpr c11
    clear c11
    obtain rfl:=Option.some.inj H
    go_wp2
    go_ret
    exact ⟨_,by first|rfl|(simp [errW_none,errW_some] <;> rfl)|(simp [*,errW_none,errW_some] <;> rfl),by (with_reducible repeat (first|apply Kd.R_alloc|apply Kd.R_drewN|apply Kd.R_drew));exact HO_5.out,by repeat (first|(with_reducible first|exact HB.out|apply below_alloc|apply pw_below_drewN|apply below_drew1|refine below_set ?_ GE165.out)|exact HB.out)⟩
   ·
    rw [if_neg c11] at H
    have c11b0:(x6_1 == a1)=false:=beq_eq_false_iff_ne.mpr c11
    have c11b1:(x6_1 != a1)=true:=bne_iff_ne.mpr c11
    replace H:=Option.bind_eq_some_iff.mp H
    obtain ⟨t171,A120,H⟩:=H
    replace H:(if t171 ≥ 0 then (some ([]:List Int)) else (if x5_1.length < 17592186044416 then ((cohousingref24_best.f k1 l0_0 l0_1 l0_2 l0_3 l0_4 l0_5 x6_1).bind fun t175=>((cohousingref24_owner.f k1 l0_0 l0_1 l0_2 l0_3 l0_4 l0_5 t175).bind fun t176=>(cohousingref24_cycle.l0 k1 a1 (x5_1 ++ [x6_1]) t176 l0_0 l0_1 l0_2 l0_3 l0_4 l0_5))) else (none)))=some r:=H
    have A12:=zF A120
    clear A120
    by_cases c13:t171 ≥ 0
    ·
     rw [if_pos c13] at H
     have c13b0:decide (0≤t171)=true:=decide_eq_true c13
     clear c13
     obtain rfl:=Option.some.inj H
     obtain ⟨Ao14,co14,eo14⟩:=Kd.R_slice HO_5.out
     subst eo14
     go_wp2_with (first|((with_reducible refine gate_callee (f:=24) rfl ?_);refine goesL_ (some 19) rfl rfl Try.func24 (by kernel_rfl) rfl #[.slice Ao14 x5_1.length co14,.int .i64 x6_1] rfl (by (try simp only [List.map_toArray,List.map_cons,List.map_nil]);first|done|rfl|(simp only [List.length_drop,List.length_take];rfl)) ?_;(with_reducible refine (cohousingref23_In.calls k1 _ _ x5_1 x6_1 t171 _ ?side1 ?side2 A12.out).mono ?_);(case side1=>repeat (first|exact (Kd.R_reads' HO_5.out).2.2|(with_reducible refine Kd.C_alloc ?_ _)|(with_reducible refine Kd.C_drewN ?_ _)|(with_reducible refine Kd.C_drew ?_)));(case side2=>exact (Kd.R_reads' HO_5.out).2.1);rintro e w' ⟨rfl,⟨nd,rfl⟩⟩;refine ⟨_,rfl,?_⟩))
     go_ret
     exact ⟨_,by first|rfl|(simp [errW_none,errW_some] <;> rfl)|(simp [*,errW_none,errW_some] <;> rfl),by first|exact Kd.R_nil _ _ _ _ _|exact Kd.N_nil _ _ _ _ _|exact Kd.V_nil _ _ _ _ _|exact Kd.Q_nil _ _ _ _ _|exact Kd.S_nil _ _ _ _ _,by repeat (first|(with_reducible first|exact HB.out|apply below_alloc|apply pw_below_drewN|apply below_drew1|refine below_set ?_ GE165.out)|exact HB.out)⟩
    ·
     rw [if_neg c13] at H
     have c13b0:decide (0≤t171)=false:=decide_eq_false c13
     clear c13
     by_cases c15:x5_1.length < 17592186044416
     ·
      rw [if_pos c15] at H
      have LMc15:=zF c15
      clear c15
      obtain ⟨y172,hy172⟩:∃ y_:List Int,y_=(x5_1 ++ [x6_1]):=⟨_,rfl⟩
      replace H:((cohousingref24_best.f k1 l0_0 l0_1 l0_2 l0_3 l0_4 l0_5 x6_1).bind fun t175=>((cohousingref24_owner.f k1 l0_0 l0_1 l0_2 l0_3 l0_4 l0_5 t175).bind fun t176=>(cohousingref24_cycle.l0 k1 a1 y172 t176 l0_0 l0_1 l0_2 l0_3 l0_4 l0_5)))=some r:=by first|(rw [hy172];with_reducible exact H)|(have H2_:=(Option.bind_some _ _).symm.trans H;rw [hy172];with_reducible exact H2_)|(have H2_:=(Option.bind_some _ _).symm.trans H;with_reducible exact H2_)|with_reducible exact H|(rw [hy172];exact H)|exact H
      have Ny172:=zF hy172
      clear hy172
      replace H:=Option.bind_eq_some_iff.mp H
      obtain ⟨t175,A160,H⟩:=H
      replace H:((cohousingref24_owner.f k1 l0_0 l0_1 l0_2 l0_3 l0_4 l0_5 t175).bind fun t176=>(cohousingref24_cycle.l0 k1 a1 y172 t176 l0_0 l0_1 l0_2 l0_3 l0_4 l0_5))=some r:=H
      have A16:=zF A160
      clear A160
      replace H:=Option.bind_eq_some_iff.mp H
      obtain ⟨t176,A170,H⟩:=H
      replace H:(cohousingref24_cycle.l0 k1 a1 y172 t176 l0_0 l0_1 l0_2 l0_3 l0_4 l0_5)=some r:=H
      have A17:=zF A170
      clear A170
      have H':=zF H
      clear H
      obtain ⟨Ao18,co18,eo18⟩:=Kd.R_slice HO_5.out
      subst eo18
      try go_wp2_with (first|((with_reducible refine gate_callee (f:=24) rfl ?_);refine goesL_ (some 19) rfl rfl Try.func24 (by kernel_rfl) rfl #[.slice Ao18 x5_1.length co18,.int .i64 x6_1] rfl (by (try simp only [List.map_toArray,List.map_cons,List.map_nil]);first|done|rfl|(simp only [List.length_drop,List.length_take];rfl)) ?_;(with_reducible refine (cohousingref23_In.calls k1 _ _ x5_1 x6_1 t171 _ ?side1 ?side2 A12.out).mono ?_);(case side1=>repeat (first|exact (Kd.R_reads' HO_5.out).2.2|(with_reducible refine Kd.C_alloc ?_ _)|(with_reducible refine Kd.C_drewN ?_ _)|(with_reducible refine Kd.C_drew ?_)));(case side2=>exact (Kd.R_reads' HO_5.out).2.1);rintro e w' ⟨rfl,⟨nd,rfl⟩⟩;refine ⟨_,rfl,?_⟩)|((with_reducible refine gate_builtin (b:=.append) (xs:=#[.tmp 21,.tmp 23]) rfl ?_);at_builtin;refine Kd.R_append (Kd.int .i64) (w0:=w) w.heap.size rfl (.tmp 21) (.tmp 23) 26 3 (.int .i64 0) 8 rfl Try.underlying26 info3 rfl (by decide) (by omega) (.slice Ao18 x5_1.length co18) x5_1 x6_1 [.int .i64 x6_1] (fun _=>True) (fun _=>False) rfl rfl ?aP (fun _ hk=>hk.elim) ?aF ?aO ?aB ?aS ?aL ?_;(case aP=>exact rfl);(case aB=>exact (by repeat (first|(with_reducible first|exact HB.out|apply below_alloc|apply pw_below_drewN|apply below_drew1|refine below_set ?_ GE165.out)|exact HB.out)));(case aF=>exact (fun _ _=>trivial));(case aO=>exact (by (with_reducible repeat (first|apply Kd.R_alloc|apply Kd.R_drewN|apply Kd.R_drew));exact HO_5.out));(case aS=>exact (below_size (by repeat (first|(with_reducible first|exact HB.out|apply below_alloc|apply pw_below_drewN|apply below_drew1|refine below_set ?_ GE165.out)|exact HB.out))));(case aL=>have:=LMc15.out;omega);intro v173 w19 ho hb hg hat;rw [← Ny172.out] at ho;have n0_:=zF (blk_grown (g:=gb165) (o:=.cells #[.slice A0_0 l0_0.length c0_0,.slice A0_1 l0_1.length c0_1,.slice A0_2 l0_2.length c0_2,.slice A0_3 l0_3.length c0_3,.slice A0_4 l0_4.length c0_4,.slice A0_5 l0_5.length c0_5] 81 (0,0)) (by (with_reducible repeat (first|refine blk_drewN ?_ _|refine blk_drew ?_|refine blk_alloc ?_ _));exact BK165.out) hg (Kd.R_ne HO_5.out BK165.out (by decide)));have n1_:=zF (hb);have n2_:=zF (ho);clear BK165;clear HB;clear HO_5;have BK165:=n0_;have HB:=n1_;have HO174:=n2_;clear n0_ n1_ n2_;clear ho hb hg hat))
      have n0_:=zF (Kd.R_drew HO174.out)
      have n1_:=zF (blk_drew BK165.out)
      have n2_:=zF (below_drew1 HB.out)
      clear HO174 BK165 HB
      have HO174:=n0_
      have BK165:=n1_
      have HB:=n2_
      clear n0_ n1_ n2_
      refine start_ (n:=6) (S:=fun w'=>w'.cell? ⟨gb165,0,none⟩=some (.slice A0_0 l0_0.length c0_0)∧w'.cell? ⟨gb165,1,none⟩=some (.slice A0_1 l0_1.length c0_1)∧w'.cell? ⟨gb165,2,none⟩=some (.slice A0_2 l0_2.length c0_2)∧w'.cell? ⟨gb165,3,none⟩=some (.slice A0_3 l0_3.length c0_3)∧w'.cell? ⟨gb165,4,none⟩=some (.slice A0_4 l0_4.length c0_4)∧w'.cell? ⟨gb165,5,none⟩=some (.slice A0_5 l0_5.length c0_5)) (ds:=[]) #[false,false,false,false,false,false] (by kernel_rfl) rfl rfl ⟨(blk_cell BK165.out 0).trans rfl,(blk_cell BK165.out 1).trans rfl,(blk_cell BK165.out 2).trans rfl,(blk_cell BK165.out 3).trans rfl,(blk_cell BK165.out 4).trans rfl,(blk_cell BK165.out 5).trans rfl⟩ (fun hHeld=>?_)
      generalize w19.drew=w20 at HO174 BK165 HB hHeld ⊢
      refine pure_ (i:=2) (N:=some 27) (v:=?_) (a':=?_) #[false,false,true,false,false,false] rfl rfl (by kernel_rfl) (fun _ _ _ h=>h) (Or.inl ⟨by rfl,?_⟩) ?_ ?_
      rotate_left
      ·
       intro w'
       go_simp
       with_reducible rfl
      rotate_left
      ·
       simp only [Act.put,zA,zB,zC,i64_w,i32_w]
       rfl
      refine take_ (i:=0) (N:=some 25) (v:=?_) (a':=?_) #[true,false,true,false,false,false] rfl rfl (by kernel_rfl) (fun _ _ _ h=>h) (Or.inl ⟨by rfl,?_⟩) hHeld ?_ ?_
      rotate_left
      ·
       rintro w' ⟨s0,s1,s2,s3,s4,s5⟩
       go_simp
       with_reducible rfl
      rotate_left
      ·
       simp only [Act.put,zA,zB,zC,i64_w,i32_w]
       rfl
      refine take_ (i:=1) (N:=some 26) (v:=?_) (a':=?_) #[true,true,true,false,false,false] rfl rfl (by kernel_rfl) (fun _ _ _ h=>h) (Or.inl ⟨by rfl,?_⟩) hHeld ?_ ?_
      rotate_left
      ·
       rintro w' ⟨s0,s1,s2,s3,s4,s5⟩
       go_simp
       with_reducible rfl
      rotate_left
      ·
       simp only [Act.put,zA,zB,zC,i64_w,i32_w]
       rfl
      refine one_ (i:=3) (N:=some 28) #[true,true,true,true,false,false] rfl rfl (by kernel_rfl) (by decide) (fun K hK=>?_)
      refine goes_ Try.func52 (by kernel_rfl) rfl #[.agg #[.slice A0_0 l0_0.length c0_0,.slice A0_1 l0_1.length c0_1,.slice A0_2 l0_2.length c0_2,.slice A0_3 l0_3.length c0_3,.slice A0_4 l0_4.length c0_4,.slice A0_5 l0_5.length c0_5],.int .i64 x6_1] (by rfl) rfl rfl (by (try simp only [List.map_toArray,List.map_cons,List.map_nil]);first|done|rfl|(simp only [List.length_drop,List.length_take];rfl)) ?_
      with_reducible refine (cohousingref24_best.calls k1 _ _ l0_0 _ _ l0_1 _ _ l0_2 _ _ l0_3 _ _ l0_4 _ _ l0_5 x6_1 t175 _ ?side1 ?side2 ?side3 ?side4 ?side5 ?side6 ?side7 ?side8 ?side9 ?side10 ?side11 ?side12 A16.out).mono ?_
      (case side1=>repeat (first|exact (Kd.C_below HR0_0.out HB.out)|(with_reducible refine Kd.C_alloc ?_ _)|(with_reducible refine Kd.C_drewN ?_ _)|(with_reducible refine Kd.C_drew ?_)))
      (case side2=>exact HC0_0.out)
      (case side3=>repeat (first|exact (Kd.C_below HR0_1.out HB.out)|(with_reducible refine Kd.C_alloc ?_ _)|(with_reducible refine Kd.C_drewN ?_ _)|(with_reducible refine Kd.C_drew ?_)))
      (case side4=>exact HC0_1.out)
      (case side5=>repeat (first|exact (Kd.C_below HR0_2.out HB.out)|(with_reducible refine Kd.C_alloc ?_ _)|(with_reducible refine Kd.C_drewN ?_ _)|(with_reducible refine Kd.C_drew ?_)))
      (case side6=>exact HC0_2.out)
      (case side7=>repeat (first|exact (Kd.C_below HR0_3.out HB.out)|(with_reducible refine Kd.C_alloc ?_ _)|(with_reducible refine Kd.C_drewN ?_ _)|(with_reducible refine Kd.C_drew ?_)))
      (case side8=>exact HC0_3.out)
      (case side9=>repeat (first|exact (Kd.C_below HR0_4.out HB.out)|(with_reducible refine Kd.C_alloc ?_ _)|(with_reducible refine Kd.C_drewN ?_ _)|(with_reducible refine Kd.C_drew ?_)))
      (case side10=>exact HC0_4.out)
      (case side11=>repeat (first|exact (Kd.C_below HR0_5.out HB.out)|(with_reducible refine Kd.C_alloc ?_ _)|(with_reducible refine Kd.C_drewN ?_ _)|(with_reducible refine Kd.C_drew ?_)))
      (case side12=>exact HC0_5.out)
      rintro e w21 ⟨rfl,hb⟩
      refine ⟨_,rfl,?_⟩
      have n0_:=zF (Kd.R_below (by (with_reducible repeat (first|apply Kd.R_alloc|apply Kd.R_drewN|apply Kd.R_drew));exact HO174.out) hb)
      have n1_:=zF (blk_below (g:=gb165) (o:=.cells #[.slice A0_0 l0_0.length c0_0,.slice A0_1 l0_1.length c0_1,.slice A0_2 l0_2.length c0_2,.slice A0_3 l0_3.length c0_3,.slice A0_4 l0_4.length c0_4,.slice A0_5 l0_5.length c0_5] 81 (0,0)) (by (with_reducible repeat (first|refine blk_drewN ?_ _|refine blk_drew ?_|refine blk_alloc ?_ _));exact BK165.out) hb)
      have n2_:=zF (below_step (by repeat (first|(with_reducible first|exact HB.out|apply below_alloc|apply pw_below_drewN|apply below_drew1|refine below_set ?_ GE165.out)|exact HB.out)) hb)
      clear HO174 BK165 HB
      have HO174:=n0_
      have BK165:=n1_
      have HB:=n2_
      clear n0_ n1_ n2_
      (try clear hb)
      (try clear hb2)
      (try clear hk)
      (try clear hi)
      refine hK.out _ _ ⟨(blk_cell BK165.out 0).trans rfl,(blk_cell BK165.out 1).trans rfl,(blk_cell BK165.out 2).trans rfl,(blk_cell BK165.out 3).trans rfl,(blk_cell BK165.out 4).trans rfl,(blk_cell BK165.out 5).trans rfl⟩ (fun hHeld=>?_)
      clear hK K
      refine norm_ (a':=?_) ?_ ?_
      rotate_left
      ·
       show Act.put _ (some 28) _=_
       simp only [Act.put,zA,zB,zC,i64_w,i32_w]
       rfl
      refine one_ (i:=4) (N:=some 29) #[true,true,true,true,true,false] rfl rfl (by kernel_rfl) (by decide) (fun K hK=>?_)
      refine goes_ Try.func77 (by kernel_rfl) rfl #[.agg #[.slice A0_0 l0_0.length c0_0,.slice A0_1 l0_1.length c0_1,.slice A0_2 l0_2.length c0_2,.slice A0_3 l0_3.length c0_3,.slice A0_4 l0_4.length c0_4,.slice A0_5 l0_5.length c0_5],.int .i64 t175] (by rfl) rfl rfl (by (try simp only [List.map_toArray,List.map_cons,List.map_nil]);first|done|rfl|(simp only [List.length_drop,List.length_take];rfl)) ?_
      with_reducible refine (cohousingref24_owner.calls k1 _ _ l0_0 _ _ l0_1 _ _ l0_2 _ _ l0_3 _ _ l0_4 _ _ l0_5 t175 t176 _ ?side1 ?side2 ?side3 ?side4 ?side5 ?side6 ?side7 ?side8 ?side9 ?side10 ?side11 ?side12 A17.out).mono ?_
      (case side1=>repeat (first|exact (Kd.C_below HR0_0.out HB.out)|(with_reducible refine Kd.C_alloc ?_ _)|(with_reducible refine Kd.C_drewN ?_ _)|(with_reducible refine Kd.C_drew ?_)))
      (case side2=>exact HC0_0.out)
      (case side3=>repeat (first|exact (Kd.C_below HR0_1.out HB.out)|(with_reducible refine Kd.C_alloc ?_ _)|(with_reducible refine Kd.C_drewN ?_ _)|(with_reducible refine Kd.C_drew ?_)))
      (case side4=>exact HC0_1.out)
      (case side5=>repeat (first|exact (Kd.C_below HR0_2.out HB.out)|(with_reducible refine Kd.C_alloc ?_ _)|(with_reducible refine Kd.C_drewN ?_ _)|(with_reducible refine Kd.C_drew ?_)))
      (case side6=>exact HC0_2.out)
      (case side7=>repeat (first|exact (Kd.C_below HR0_3.out HB.out)|(with_reducible refine Kd.C_alloc ?_ _)|(with_reducible refine Kd.C_drewN ?_ _)|(with_reducible refine Kd.C_drew ?_)))
      (case side8=>exact HC0_3.out)
      (case side9=>repeat (first|exact (Kd.C_below HR0_4.out HB.out)|(with_reducible refine Kd.C_alloc ?_ _)|(with_reducible refine Kd.C_drewN ?_ _)|(with_reducible refine Kd.C_drew ?_)))
      (case side10=>exact HC0_4.out)
      (case side11=>repeat (first|exact (Kd.C_below HR0_5.out HB.out)|(with_reducible refine Kd.C_alloc ?_ _)|(with_reducible refine Kd.C_drewN ?_ _)|(with_reducible refine Kd.C_drew ?_)))
      (case side12=>exact HC0_5.out)
      rintro e w22 ⟨rfl,hb⟩
      refine ⟨_,rfl,?_⟩
      have n0_:=zF (Kd.R_below (by (with_reducible repeat (first|apply Kd.R_alloc|apply Kd.R_drewN|apply Kd.R_drew));exact HO174.out) hb)
      have n1_:=zF (blk_below (g:=gb165) (o:=.cells #[.slice A0_0 l0_0.length c0_0,.slice A0_1 l0_1.length c0_1,.slice A0_2 l0_2.length c0_2,.slice A0_3 l0_3.length c0_3,.slice A0_4 l0_4.length c0_4,.slice A0_5 l0_5.length c0_5] 81 (0,0)) (by (with_reducible repeat (first|refine blk_drewN ?_ _|refine blk_drew ?_|refine blk_alloc ?_ _));exact BK165.out) hb)
      have n2_:=zF (below_step (by repeat (first|(with_reducible first|exact HB.out|apply below_alloc|apply pw_below_drewN|apply below_drew1|refine below_set ?_ GE165.out)|exact HB.out)) hb)
      clear HO174 BK165 HB
      have HO174:=n0_
      have BK165:=n1_
      have HB:=n2_
      clear n0_ n1_ n2_
      (try clear hb)
      (try clear hb2)
      (try clear hk)
      (try clear hi)
      refine hK.out _ _ ⟨(blk_cell BK165.out 0).trans rfl,(blk_cell BK165.out 1).trans rfl,(blk_cell BK165.out 2).trans rfl,(blk_cell BK165.out 3).trans rfl,(blk_cell BK165.out 4).trans rfl,(blk_cell BK165.out 5).trans rfl⟩ (fun hHeld=>?_)
      clear hK K
      refine norm_ (a':=?_) ?_ ?_
      rotate_left
      ·
       show Act.put _ (some 29) _=_
       simp only [Act.put,zA,zB,zC,i64_w,i32_w]
       rfl
      refine pure_ (i:=5) (N:=some 6) (v:=?_) (a':=?_) #[true,true,true,true,true,true] rfl rfl (by kernel_rfl) (fun _ _ _ h=>h) (Or.inl ⟨by rfl,?_⟩) ?_ ?_
      rotate_left
      ·
       intro w'
       go_simp
       with_reducible rfl
      rotate_left
      ·
       simp only [Act.put,zA,zB,zC,i64_w,i32_w]
       rfl
      refine done_ (by kernel_rfl) ?_
      try go_wp2
      go_roundg k1
      case measure=>have:=HK1.out;omega
      case rel=>exact ⟨(y172),(t176),(by first|rfl|(simp;done)|(simp [*];done)),H',⟨by have:=HK1.out;omega⟩,⟨by (with_reducible repeat (first|apply Kd.R_alloc|apply Kd.R_drewN|apply Kd.R_drew));exact HO174.out⟩,⟨by (with_reducible repeat (first|refine blk_drewN ?_ _|refine blk_drew ?_|refine blk_alloc ?_ _));exact BK165.out⟩,⟨by repeat (first|(with_reducible first|exact HB.out|apply below_alloc|apply pw_below_drewN|apply below_drew1|refine below_set ?_ GE165.out)|exact HB.out)⟩⟩
     ·
      rw [if_neg c15] at H
      exact absurd H (by simp)

end Go.Proofs.Ytjgnkhfgmpaljaa.P
