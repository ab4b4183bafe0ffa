/- Lemmas, readings of functions as plain Lean functions and contracts of functions of the program, for the claimed theorem; each one's conditions stand in its statement. -/
import Derived.Test.YtjgnkhfgmpaljaaQTD7
import Derived.Test.YtjgnkhfgmpaljaaQTD9
namespace Go.Proofs.Ytjgnkhfgmpaljaa.P
open Go.RowKit Go.Proofs.YtjgnkhfgmpaljaaW.PrintWords Go.Proofs.YtjgnkhfgmpaljaaW.PrintLast Go.Proofs.YtjgnkhfgmpaljaaW.PrintMore
attribute [local go_sem] max2_int min2_int max_two min_two max_three min_three max_four min_four   -- for this text's walks alone
set_option linter.unusedVariables false
set_option linter.unusedSimpArgs false

mutual
def cohousingref24_ring.l0:Nat→List Int→List (S39)→Int→Int→List (S53)→List (S41)→List Int→List Bool→List Int→List Int→Option (Bool × (List (S39)) × Bool)
 | 0,_,_,_,_,_,_,_,_,_,_=>none
 | k + 1,x1,x6,x7,x8,x178000,x178001,x178002,x178003,x178004,x178005=>if x8 < (x1.length:Int) then (if 0≤x8 then (if 0≤(rd x1 x8) then (if (rd x1 x8) < (x178001.length:Int) then ((cohousingref24_best.f k x178000 x178001 x178002 x178003 x178004 x178005 (rd x1 x8)).bind fun t183=>(if x6.length < 5864062014805 then ((some (x6 ++ [(⟨(rd_T41 x178001 (rd x1 x8)).f0,(rd_T41 x178001 (rd x1 x8)).f1,t183⟩:S39)]:List (S39))).bind fun y184=>((cohousingref24_tenant.f k x178000 x178001 x178002 x178003 x178004 x178005 t183).bind fun t187=>(if t187 < 0 then (cohousingref24_ring.l0 k x1 y184 x8 (wrap64 (x8 + 1)) x178000 x178001 x178002 x178003 x178004 x178005) else (cohousingref24_ring.l0 k x1 y184 x7 (wrap64 (x8 + 1)) x178000 x178001 x178002 x178003 x178004 x178005)))) else (none))) else (none)) else (none)) else (none)) else (if x7 < 0 then (if (x6.length:Int) > 1 then (some (false,x6,true)) else (if 0 < (x6.length:Int) then (some (false,x6,(((rd_T39 x6 0).f1) != ((rd_T39 x6 0).f2)))) else (none))) else (cohousingref24_ring.l1 k x6 x7 ([]:List (S39)) 0))
def cohousingref24_ring.l1:Nat→List (S39)→Int→List (S39)→Int→Option (Bool × (List (S39)) × Bool)
 | 0,_,_,_,_=>none
 | k + 1,x6,x7,x11,x12=>if x12 < (x6.length:Int) then (if (x6.length:Int)=0 then (none) else (if 0≤(Int.tmod (wrap64 ((wrap64 (x7 - x12)) + (x6.length:Int))) (x6.length:Int)) then (if (Int.tmod (wrap64 ((wrap64 (x7 - x12)) + (x6.length:Int))) (x6.length:Int)) < (x6.length:Int) then (if x11.length < 5864062014805 then (cohousingref24_ring.l1 k x6 x7 (x11 ++ [(⟨(rd_T39 x6 (Int.tmod (wrap64 ((wrap64 (x7 - x12)) + (x6.length:Int))) (x6.length:Int))).f0,(rd_T39 x6 (Int.tmod (wrap64 ((wrap64 (x7 - x12)) + (x6.length:Int))) (x6.length:Int))).f1,(rd_T39 x6 (Int.tmod (wrap64 ((wrap64 (x7 - x12)) + (x6.length:Int))) (x6.length:Int))).f2⟩:S39)]) (wrap64 (x12 + 1))) else (none)) else (none)) else (none))) else (some (true,x11,true))
end
def cohousingref24_ring.f (k:Nat) (l0_0:List (S53)) (l0_1:List (S41)) (l0_2:List Int) (l0_3:List Bool) (l0_4:List Int) (l0_5:List Int) (l1:List Int):Option (Bool × (List (S39)) × Bool):=cohousingref24_ring.l0 k l1 ([]:List (S39)) (-1) 0 l0_0 l0_1 l0_2 l0_3 l0_4 l0_5
theorem cohousingref24_ring.mono_l:∀ k,(∀ y0 y1 y2 y3 y4 y5 y6 y7 y8 y9,LeO (cohousingref24_ring.l0 k y0 y1 y2 y3 y4 y5 y6 y7 y8 y9) (cohousingref24_ring.l0 (k + 1) y0 y1 y2 y3 y4 y5 y6 y7 y8 y9))∧(∀ y0 y1 y2 y3,LeO (cohousingref24_ring.l1 k y0 y1 y2 y3) (cohousingref24_ring.l1 (k + 1) y0 y1 y2 y3))
 | 0=>⟨fun _ _ _ _ _ _ _ _ _ _ r h=>by simp [cohousingref24_ring.l0] at h,fun _ _ _ _ r h=>by simp [cohousingref24_ring.l1] at h⟩
 | k + 1=>by
  obtain ⟨ih0,ih1⟩:=cohousingref24_ring.mono_l k
  refine ⟨?_,?_⟩
  ·
   intro y0 y1 y2 y3 y4 y5 y6 y7 y8 y9
   unfold cohousingref24_ring.l0
   repeat' first
   | (with_reducible exact ih0 _ _ _ _ _ _ _ _ _ _)
   | (with_reducible exact ih1 _ _ _ _)
   | (with_reducible exact cohousingref24_best.mono _ _ _ _ _ _ _ _)
   | (with_reducible exact cohousingref24_tenant.mono _ _ _ _ _ _ _ _)
   | (with_reducible exact LeO.refl _)
   | (with_reducible exact LeO.none _)
   | (with_reducible refine LeO.ite ?_ ?_)
   | (with_reducible refine LeO.bind ?_ (fun _=>?_))
   | exact ih0 _ _ _ _ _ _ _ _ _ _
   | exact ih1 _ _ _ _
   | exact cohousingref24_best.mono _ _ _ _ _ _ _ _
   | exact cohousingref24_tenant.mono _ _ _ _ _ _ _ _
   | exact LeO.none _
   | refine LeO.ite ?_ ?_
   | refine LeO.bind ?_ (fun _=>?_)
  ·
   intro y0 y1 y2 y3
   unfold cohousingref24_ring.l1
   repeat' first
   | (with_reducible exact ih0 _ _ _ _ _ _ _ _ _ _)
   | (with_reducible exact ih1 _ _ _ _)
   | (with_reducible exact cohousingref24_best.mono _ _ _ _ _ _ _ _)
   | (with_reducible exact cohousingref24_tenant.mono _ _ _ _ _ _ _ _)
   | (with_reducible exact LeO.refl _)
   | (with_reducible exact LeO.none _)
   | (with_reducible refine LeO.ite ?_ ?_)
   | (with_reducible refine LeO.bind ?_ (fun _=>?_))
   | exact ih0 _ _ _ _ _ _ _ _ _ _
   | exact ih1 _ _ _ _
   | exact cohousingref24_best.mono _ _ _ _ _ _ _ _
   | exact cohousingref24_tenant.mono _ _ _ _ _ _ _ _
   | exact LeO.none _
   | refine LeO.ite ?_ ?_
   | refine LeO.bind ?_ (fun _=>?_)
theorem cohousingref24_ring.mono:∀ a0 a1 a2 a3 a4 a5 a6 k,LeO (cohousingref24_ring.f k a0 a1 a2 a3 a4 a5 a6) (cohousingref24_ring.f (k + 1) a0 a1 a2 a3 a4 a5 a6):=by
 intro a0 a1 a2 a3 a4 a5 a6 k
 obtain ⟨ih0,ih1⟩:=cohousingref24_ring.mono_l k
 unfold cohousingref24_ring.f
 repeat' first
   | (with_reducible exact ih0 _ _ _ _ _ _ _ _ _ _)
   | (with_reducible exact ih1 _ _ _ _)
   | (with_reducible exact cohousingref24_best.mono _ _ _ _ _ _ _ _)
   | (with_reducible exact cohousingref24_tenant.mono _ _ _ _ _ _ _ _)
   | (with_reducible exact LeO.refl _)
   | (with_reducible exact LeO.none _)
   | (with_reducible refine LeO.ite ?_ ?_)
   | (with_reducible refine LeO.bind ?_ (fun _=>?_))
   | exact ih0 _ _ _ _ _ _ _ _ _ _
   | exact ih1 _ _ _ _
   | exact cohousingref24_best.mono _ _ _ _ _ _ _ _
   | exact cohousingref24_tenant.mono _ _ _ _ _ _ _ _
   | exact LeO.none _
   | refine LeO.ite ?_ ?_
   | refine LeO.bind ?_ (fun _=>?_)
def cohousingref24_ring.T6:Bool × List (List Nat × List Nat):=(true,[([],[]),([0],[0]),([1],[1]),([],[]),([],[]),([3,4],[3,4]),([5],[5]),([2,6],[2,6]),([7],[7]),([],[]),([9,8,0,1,2,3,4,5,6,7,8,9],[8,9])])
def cohousingref24_ring.B6:List Nat:=[0,1,3,0,0,24,56,127,255,0,1023]
theorem cohousingref24_ring.tab6:rtab .any (opsOf Try.f50 6)=cohousingref24_ring.T6:=by kernel_rfl
theorem cohousingref24_ring.bits6:waitsOk cohousingref24_ring.T6.2 cohousingref24_ring.B6=true:=by kernel_rfl
def cohousingref24_ring.T12:Bool × List (List Nat × List Nat):=(true,[([],[]),([0],[0]),([],[]),([2],[2]),([3],[3]),([4],[4]),([5],[5]),([6,5],[5,6]),([7,5],[5,7]),([8,5],[5,8]),([5],[5]),([10,5],[5,10]),([11,5],[5,11]),([12,5],[5,12]),([9,13,5],[5,9,13]),([5,14],[5,14]),([1,5,0,1],[1]),([15,16,0,1,2,3,4,5,6,7,8,9,10,11,12,13,14,15,16],[15])])
def cohousingref24_ring.B12:List Nat:=[0,1,0,4,12,28,60,124,252,508,60,1084,3132,7228,16380,32764,63,131071]
theorem cohousingref24_ring.tab12:rtab .any (opsOf Try.f50 12)=cohousingref24_ring.T12:=by kernel_rfl
theorem cohousingref24_ring.bits12:waitsOk cohousingref24_ring.T12.2 cohousingref24_ring.B12=true:=by kernel_rfl
set_option maxHeartbeats 8000000 in
set_option maxRecDepth 100000 in
theorem cohousingref24_ring.calls (k:Nat) (A0_0:Option Addr) (c0_0:Nat) (l0_0:List (S53)) (A0_1:Option Addr) (c0_1:Nat) (l0_1:List (S41)) (A0_2:Option Addr) (c0_2:Nat) (l0_2:List Int) (A0_3:Option Addr) (c0_3:Nat) (l0_3:List Bool) (A0_4:Option Addr) (c0_4:Nat) (l0_4:List Int) (A0_5:Option Addr) (c0_5:Nat) (l0_5:List Int) (A1:Option Addr) (c1:Nat) (l1:List Int) (r1:Bool) (r2:List (S39)) (r3:Bool) (w:World) (hr0_0:Kd.C k53 w A0_0 l0_0.length l0_0) (hc0_0:l0_0.length≤c0_0) (hr0_1:Kd.C k41 w A0_1 l0_1.length l0_1) (hc0_1:l0_1.length≤c0_1) (hr0_2:Kd.C (Kd.int .i64) w A0_2 l0_2.length l0_2) (hc0_2:l0_2.length≤c0_2) (hr0_3:Kd.C Kd.bool w A0_3 l0_3.length l0_3) (hc0_3:l0_3.length≤c0_3) (hr0_4:Kd.C (Kd.int .i64) w A0_4 l0_4.length l0_4) (hc0_4:l0_4.length≤c0_4) (hr0_5:Kd.C (Kd.int .i64) w A0_5 l0_5.length l0_5) (hc0_5:l0_5.length≤c0_5) (hr1:Kd.C (Kd.int .i64) w A1 l1.length l1) (hc1:l1.length≤c1) (h:cohousingref24_ring.f k l0_0 l0_1 l0_2 l0_3 l0_4 l0_5 l1=some (r1,r2,r3)) :
  Calls Try.prog 50 #[.agg #[.slice A0_0 l0_0.length c0_0,.slice A0_1 l0_1.length c0_1,.slice A0_2 l0_2.length c0_2,.slice A0_3 l0_3.length c0_3,.slice A0_4 l0_4.length c0_4,.slice A0_5 l0_5.length c0_5],.slice A1 l1.length c1] w fun e w'=>∃ v1_:Value,e = .returned (.tuple #[.agg #[.bool r1,v1_],.bool r3])∧Kd.R k39 39 w' w.heap.size (fun _=>True) v1_ r2∧Below w.heap.size w w':=by
 have hu81:=Try.underlying81
 have hu47:=Try.underlying47
 have hu41:=Try.underlying41
 have hu39:=Try.underlying39
 have HR0_0:=zF hr0_0
 have HC0_0:=zF hc0_0
 clear hr0_0 hc0_0
 have HR0_1:=zF hr0_1
 have HC0_1:=zF hc0_1
 clear hr0_1 hc0_1
 have HR0_2:=zF hr0_2
 have HC0_2:=zF hc0_2
 clear hr0_2 hc0_2
 have HR0_3:=zF hr0_3
 have HC0_3:=zF hc0_3
 clear hr0_3 hc0_3
 have HR0_4:=zF hr0_4
 have HC0_4:=zF hc0_4
 clear hr0_4 hc0_4
 have HR0_5:=zF hr0_5
 have HC0_5:=zF hc0_5
 clear hr0_5 hc0_5
 have HR1:=zF hr1
 have HC1:=zF hc1
 clear hr1 hc1
 have HB:=zF (Below.refl w.heap.size w)
 have H:(cohousingref24_ring.l0 k l1 ([]:List (S39)) (-1) 0 l0_0 l0_1 l0_2 l0_3 l0_4 l0_5)=some (r1,r2,r3):=h
 clear h
 have H':=zF H
 clear H
 go_enter Try.func50,Try.ntmps50
 go_wp2_with (first|((with_reducible refine gate_dst (N:=2) rfl ?_);refine box_event ?hg (N:=2) ?hd (cs:=#[.slice A0_0 l0_0.length c0_0,.slice A0_1 l0_1.length c0_1,.slice A0_2 l0_2.length c0_2,.slice A0_3 l0_3.length c0_3,.slice A0_4 l0_4.length c0_4,.slice A0_5 l0_5.length c0_5]) (t:=81) ?hr ?_;(case hd=>rfl);(case hg=>rfl);(case hr=>first|(go_simp;done)|(go_simp;rfl));intro gb177 hg w3 hbox hb;have n0_:=zF (below_step (by repeat (first|(with_reducible first|exact HB.out|apply below_alloc|apply pw_below_drewN|apply below_drew1)|exact HB.out)) hb);have n1_:=zF (hbox);have n2_:=zF ((by rw [hg];exact (below_size (by repeat (first|(with_reducible first|exact HB.out|apply below_alloc|apply pw_below_drewN|apply below_drew1)|exact HB.out))):w.heap.size≤gb177));have n3_:=zF ((by rw [hg];exact (below_size (by repeat (first|(with_reducible first|exact HB.out|apply below_alloc|apply pw_below_drewN|apply below_drew1)|exact HB.out))):w.heap.size≤gb177));clear HB;have HB:=n0_;have BK177:=n1_;have GW177:=n2_;have GE177:=n3_;clear n0_ n1_ n2_ n3_;clear hb hbox hg)|((with_reducible refine gate_dst (N:=4) rfl ?_);refine box_event ?hg (N:=4) ?hd (cs:=#[.bool false,.slice none 0 0]) (t:=47) ?hr ?_;(case hd=>rfl);(case hg=>rfl);(case hr=>first|(go_simp;done)|(go_simp;rfl));intro gb178 hg w4 hbox hb;have n0_:=zF (blk_below (g:=gb177) (o:=.cells #[.slice A0_0 l0_0.length c0_0,.slice A0_1 l0_1.length c0_1,.slice A0_2 l0_2.length c0_2,.slice A0_3 l0_3.length c0_3,.slice A0_4 l0_4.length c0_4,.slice A0_5 l0_5.length c0_5] 81 (0,0)) (by (with_reducible repeat (first|refine blk_drewN ?_ _|refine blk_drew ?_|refine blk_alloc ?_ _));exact BK177.out) hb);have n1_:=zF (below_step (by repeat (first|(with_reducible first|exact HB.out|apply below_alloc|apply pw_below_drewN|apply below_drew1|refine below_set ?_ GE177.out)|exact HB.out)) hb);have n2_:=zF (hbox);have n3_:=zF ((by rw [hg];exact (below_size (by repeat (first|(with_reducible first|exact HB.out|apply below_alloc|apply pw_below_drewN|apply below_drew1|refine below_set ?_ GE177.out)|exact HB.out))):w.heap.size≤gb178));have n4_:=zF ((by rw [hg];exact (below_size (by repeat (first|(with_reducible first|exact HB.out|apply below_alloc|apply pw_below_drewN|apply below_drew1|refine below_set ?_ GE177.out)|exact HB.out))):w.heap.size≤gb178));have n5_:=zF ((by rw [hg];exact Nat.ne_of_lt (blk_lt (g:=gb177) (o:=.cells #[.slice A0_0 l0_0.length c0_0,.slice A0_1 l0_1.length c0_1,.slice A0_2 l0_2.length c0_2,.slice A0_3 l0_3.length c0_3,.slice A0_4 l0_4.length c0_4,.slice A0_5 l0_5.length c0_5] 81 (0,0)) (by (with_reducible repeat (first|refine blk_drewN ?_ _|refine blk_drew ?_|refine blk_alloc ?_ _));exact BK177.out)):gb177≠gb178));have n6_:=zF ((by rw [hg];exact Nat.ne_of_gt (blk_lt (g:=gb177) (o:=.cells #[.slice A0_0 l0_0.length c0_0,.slice A0_1 l0_1.length c0_1,.slice A0_2 l0_2.length c0_2,.slice A0_3 l0_3.length c0_3,.slice A0_4 l0_4.length c0_4,.slice A0_5 l0_5.length c0_5] 81 (0,0)) (by (with_reducible repeat (first|refine blk_drewN ?_ _|refine blk_drew ?_|refine blk_alloc ?_ _));exact BK177.out)):gb178≠gb177));clear BK177;clear HB;have BK177:=n0_;have HB:=n1_;have BK178:=n2_;have GW178:=n3_;have GE178:=n4_;have NB177_178:=n5_;have NB178_177:=n6_;clear n0_ n1_ n2_ n3_ n4_ n5_ n6_;clear hb hbox hg))
 go_loopg [6,7,8] k (fun kq v6 v7 v8 w'=>∃ (x6_1:List (S39)) (x7_1:Int) (x8_1:Int),v7 = .int .i64 x7_1∧v8 = .int .i64 x8_1∧Aside0 (cohousingref24_ring.l0 kq l1 x6_1 x7_1 x8_1 l0_0 l0_1 l0_2 l0_3 l0_4 l0_5=some (r1,r2,r3))∧Aside0 (kq≤k)∧Aside0 (Kd.R k39 39 w' w.heap.size (fun _=>True) v6 x6_1)∧Aside0 (w'.heap[gb177]? = some (.cells #[(.slice A0_0 l0_0.length c0_0),(.slice A0_1 l0_1.length c0_1),(.slice A0_2 l0_2.length c0_2),(.slice A0_3 l0_3.length c0_3),(.slice A0_4 l0_4.length c0_4),(.slice A0_5 l0_5.length c0_5)] 81 (0,0)))∧Aside0 (w'.heap[gb178]? = some (.cells #[.bool false,(.slice none 0 0)] 47 (0,0)))∧Aside0 (Below w.heap.size w w'))
 case atStart=>exact ⟨(([]:List (S39))),((-1)),(0),(by first|rfl|(simp;done)|(simp [*];done)),(by first|rfl|(simp;done)|(simp [*];done)),H',⟨Nat.le_refl _⟩,⟨by first|exact Kd.R_nil _ _ _ _ _|exact Kd.N_nil _ _ _ _ _|exact Kd.V_nil _ _ _ _ _|exact Kd.Q_nil _ _ _ _ _|exact Kd.S_nil _ _ _ _ _⟩,⟨by (with_reducible repeat (first|refine blk_drewN ?_ _|refine blk_drew ?_|refine blk_alloc ?_ _));exact BK177.out⟩,⟨by (with_reducible repeat (first|refine blk_drewN ?_ _|refine blk_drew ?_|refine blk_alloc ?_ _));exact BK178.out⟩,⟨by repeat (first|(with_reducible first|exact HB.out|apply below_alloc|apply pw_below_drewN|apply below_drew1|refine below_set ?_ GE177.out|refine below_set ?_ GE178.out)|exact HB.out)⟩⟩
 case round =>
  clear H'
  try clear c1
  try clear p2
  obtain ⟨x6_1,x7_1,x8_1,rfl,rfl,HA,HK1,HO_6,BK177,BK178,HB⟩:=hrel
  cases gk with
  | zero=>exact absurd HA.out (by simp [cohousingref24_ring.l0])
  | succ k1 =>
   have H:=HA.out
   clear HA
   simp only [cohousingref24_ring.l0] at H
   by_cases c5:x8_1 < (l1.length:Int)
   ·
    rw [if_pos c5] at H
    have c5b0:decide (x8_1 < (l1.length:Int))=true:=decide_eq_true c5
    clear c5
    by_cases c6:0≤x8_1
    ·
     rw [if_pos c6] at H
     have c6b0:decide (0≤x8_1)=true:=decide_eq_true c6
     clear c6
     by_cases c7:0≤(rd l1 x8_1)
     ·
      rw [if_pos c7] at H
      have c7b0:decide (0≤(rd l1 x8_1))=true:=decide_eq_true c7
      clear c7
      by_cases c8:(rd l1 x8_1) < (l0_1.length:Int)
      ·
       rw [if_pos c8] at H
       have c8b0:decide ((rd l1 x8_1) < (l0_1.length:Int))=true:=decide_eq_true c8
       clear c8
       replace H:=Option.bind_eq_some_iff.mp H
       obtain ⟨t183,A90,H⟩:=H
       replace H:(if x6_1.length < 5864062014805 then ((some (x6_1 ++ [(⟨(rd_T41 l0_1 (rd l1 x8_1)).f0,(rd_T41 l0_1 (rd l1 x8_1)).f1,t183⟩:S39)]:List (S39))).bind fun y184=>((cohousingref24_tenant.f k1 l0_0 l0_1 l0_2 l0_3 l0_4 l0_5 t183).bind fun t187=>(if t187 < 0 then (cohousingref24_ring.l0 k1 l1 y184 x8_1 (wrap64 (x8_1 + 1)) l0_0 l0_1 l0_2 l0_3 l0_4 l0_5) else (cohousingref24_ring.l0 k1 l1 y184 x7_1 (wrap64 (x8_1 + 1)) l0_0 l0_1 l0_2 l0_3 l0_4 l0_5)))) else (none))=some (r1,r2,r3):=H
       have A9:=zF A90
       clear A90
       by_cases c10:x6_1.length < 5864062014805
       ·
        rw [if_pos c10] at H
        have LMc10:=zF c10
        clear c10
        obtain ⟨y184,hy184⟩:∃ y_:List (S39),y_=(x6_1 ++ [(⟨(rd_T41 l0_1 (rd l1 x8_1)).f0,(rd_T41 l0_1 (rd l1 x8_1)).f1,t183⟩:S39)]):=⟨_,rfl⟩
        replace H:((cohousingref24_tenant.f k1 l0_0 l0_1 l0_2 l0_3 l0_4 l0_5 t183).bind fun t187=>(if t187 < 0 then (cohousingref24_ring.l0 k1 l1 y184 x8_1 (wrap64 (x8_1 + 1)) l0_0 l0_1 l0_2 l0_3 l0_4 l0_5) else (cohousingref24_ring.l0 k1 l1 y184 x7_1 (wrap64 (x8_1 + 1)) l0_0 l0_1 l0_2 l0_3 l0_4 l0_5)))=some (r1,r2,r3):=by first|(rw [hy184];with_reducible exact H)|(have H2_:=(Option.bind_some _ _).symm.trans H;rw [hy184];with_reducible exact H2_)|(have H2_:=(Option.bind_some _ _).symm.trans H;with_reducible exact H2_)|with_reducible exact H|(rw [hy184];exact H)|exact H
        have Ny184:=zF hy184
        clear hy184
        replace H:=Option.bind_eq_some_iff.mp H
        obtain ⟨t187,A110,H⟩:=H
        replace H:(if t187 < 0 then (cohousingref24_ring.l0 k1 l1 y184 x8_1 (wrap64 (x8_1 + 1)) l0_0 l0_1 l0_2 l0_3 l0_4 l0_5) else (cohousingref24_ring.l0 k1 l1 y184 x7_1 (wrap64 (x8_1 + 1)) l0_0 l0_1 l0_2 l0_3 l0_4 l0_5))=some (r1,r2,r3):=H
        have A11:=zF A110
        clear A110
        by_cases c12:t187 < 0
        ·
         rw [if_pos c12] at H
         have c12b0:decide (t187 < 0)=true:=decide_eq_true c12
         clear c12
         have H':=zF H
         clear H
         try go_wp2
         have n0_:=zF (Kd.R_drew HO_6.out)
         have n1_:=zF (blk_drew BK177.out)
         have n2_:=zF (blk_drew BK178.out)
         have n3_:=zF (below_drew1 HB.out)
         clear HO_6 BK177 BK178 HB
         have HO_6:=n0_
         have BK177:=n1_
         have BK178:=n2_
         have HB:=n3_
         clear n0_ n1_ n2_ n3_
         have p179:0≤(x8_1:Int):=zE (by first|(with_reducible assumption)|assumption)
         have q179:x8_1 < (l1.length:Int):=zE (by first|(with_reducible assumption)|assumption)
         obtain ⟨ad179,e179,hx179_0⟩:=Kd.at_int HR1.out x8_1 p179 q179
         have hw179_0:=hx179_0
         cases e179
         replace hx179_0:=(HB.out.cell (World.block_lt_of_cell? w _ hx179_0)).trans hx179_0
         replace p179:=eq_true p179
         replace q179:=eq_true q179
         have p180:0≤((rd l1 x8_1):Int):=zE (by first|(with_reducible assumption)|assumption)
         have q180:(rd l1 x8_1) < (l0_1.length:Int):=zE (by first|(with_reducible assumption)|assumption)
         obtain ⟨ad180,A180_2,c180_2,e180,hx180_0,hx180_1,hx180_2,hl180_2,hi180_2⟩:=at_T41 HR0_1.out (rd l1 x8_1) p180 q180
         have hw180_2:=hx180_2
         have hw180_1:=hx180_1
         have hw180_0:=hx180_0
         cases e180
         replace hx180_0:=(HB.out.cell (World.block_lt_of_cell? w _ hx180_0)).trans hx180_0
         replace hx180_1:=(HB.out.cell (World.block_lt_of_cell? w _ hx180_1)).trans hx180_1
         replace hx180_2:=(HB.out.cell (World.block_lt_of_cell? w _ hx180_2)).trans hx180_2
         have HR180_2:=zF hi180_2
         have HC180_2:=zF hl180_2
         clear hi180_2 hl180_2
         replace p180:=eq_true p180
         replace q180:=eq_true q180
         refine start_ (n:=11) (S:=fun w'=>w'.cell? ⟨gb177,0,none⟩=some (.slice A0_0 l0_0.length c0_0)∧w'.cell? ⟨gb177,1,none⟩=some (.slice (some ad180) l0_1.length c0_1)∧w'.cell? ⟨gb177,2,none⟩=some (.slice A0_2 l0_2.length c0_2)∧w'.cell? ⟨gb177,3,none⟩=some (.slice A0_3 l0_3.length c0_3)∧w'.cell? ⟨gb177,4,none⟩=some (.slice A0_4 l0_4.length c0_4)∧w'.cell? ⟨gb177,5,none⟩=some (.slice A0_5 l0_5.length c0_5)∧w'.cell? (ad179.add (x8_1).toNat)=some (.int .i64 (rd l1 x8_1))∧w'.cell? (ad180.add (((rd l1 x8_1)).toNat * 3))=some (.int .i64 ((rd_T41 l0_1 (rd l1 x8_1)).f0))∧w'.cell? ⟨(ad180.add (((rd l1 x8_1)).toNat * 3)).block,(ad180.add (((rd l1 x8_1)).toNat * 3)).off + 1,none⟩=some (.int .i64 ((rd_T41 l0_1 (rd l1 x8_1)).f1))∧w'.cell? ⟨(ad180.add (((rd l1 x8_1)).toNat * 3)).block,(ad180.add (((rd l1 x8_1)).toNat * 3)).off + 2,none⟩=some (.slice A180_2 ((rd_T41 l0_1 (rd l1 x8_1)).f2).length c180_2)) (ds:=[]) #[false,false,false,false,false,false,false,false,false,false,false] (by kernel_rfl) rfl rfl ⟨(blk_cell BK177.out 0).trans rfl,(blk_cell BK177.out 1).trans rfl,(blk_cell BK177.out 2).trans rfl,(blk_cell BK177.out 3).trans rfl,(blk_cell BK177.out 4).trans rfl,(blk_cell BK177.out 5).trans rfl,((HB.out.cell (World.block_lt_of_cell? w _ hw179_0)).trans hw179_0),((HB.out.cell (World.block_lt_of_cell? w _ hw180_0)).trans hw180_0),((HB.out.cell (World.block_lt_of_cell? w _ hw180_1)).trans hw180_1),((HB.out.cell (World.block_lt_of_cell? w _ hw180_2)).trans hw180_2)⟩ (fun hHeld=>?_);refine with_tabW cohousingref24_ring.tab6 cohousingref24_ring.bits6 (fun HT_ HW_=>?_)
         generalize wr.drew=w13 at HO_6 BK177 BK178 HB HR180_2 hx179_0 hx180_0 hx180_1 hx180_2 hHeld ⊢
         refine pure_ (i:=0) (N:=some 19) (v:=?_) (a':=?_) #[true,false,false,false,false,false,false,false,false,false,false] rfl rfl (any_of HT_.out (by kernel_rfl)) (fun _ _ _ h=>h) (Or.inl ⟨by rfl,?_⟩) ?_ ?_
         rotate_left
         ·
          intro w'
          go_simp
          with_reducible rfl
         rotate_left
         ·
          simp only [Act.put,zA,zB,zC,i64_w,i32_w]
          rfl
         refine pure_ (i:=1) (N:=some 20) (v:=?_) (a':=?_) #[true,true,false,false,false,false,false,false,false,false,false] rfl rfl (any_of HT_.out (by kernel_rfl)) (fun _ _ _ h=>h) (Or.inl ⟨by rfl,?_⟩) ?_ ?_
         rotate_left
         ·
          intro w'
          go_simp
          with_reducible rfl
         rotate_left
         ·
          simp only [Act.put,zA,zB,zC,i64_w,i32_w]
          rfl
         refine pure_ (i:=3) (N:=some 22) (v:=?_) (a':=?_) #[true,true,false,true,false,false,false,false,false,false,false] rfl rfl (any_of HT_.out (by kernel_rfl)) (fun _ _ _ h=>h) (Or.inl ⟨by rfl,?_⟩) ?_ ?_
         rotate_left
         ·
          intro w'
          go_simp
          with_reducible rfl
         rotate_left
         ·
          simp only [Act.put,zA,zB,zC,i64_w,i32_w]
          rfl
         refine pure_ (i:=4) (N:=some 23) (v:=?_) (a':=?_) #[true,true,false,true,true,false,false,false,false,false,false] rfl rfl (any_of HT_.out (by kernel_rfl)) (fun _ _ _ h=>h) (Or.inl ⟨by rfl,?_⟩) ?_ ?_
         rotate_left
         ·
          intro w'
          go_simp
          with_reducible rfl
         rotate_left
         ·
          simp only [Act.put,zA,zB,zC,i64_w,i32_w]
          rfl
         refine pure_ (i:=5) (N:=some 24) (v:=?_) (a':=?_) #[true,true,false,true,true,true,false,false,false,false,false] rfl rfl (any_of HT_.out (by kernel_rfl)) (fun _ _ _ h=>h) (Or.inl ⟨by rfl,?_⟩) ?_ ?_
         rotate_left
         ·
          intro w'
          go_simp
          with_reducible rfl
         rotate_left
         ·
          simp only [Act.put,zA,zB,zC,i64_w,i32_w]
          rfl
         refine take_ (i:=2) (N:=some 21) (v:=?_) (a':=?_) #[true,true,true,true,true,true,false,false,false,false,false] rfl rfl (take_ofW HT_.out HW_.out (by kernel_rfl)) (fun _ _ _ h=>h) (Or.inl ⟨by rfl,?_⟩) hHeld ?_ ?_
         rotate_left
         ·
          rintro w' ⟨s0,s1,s2,s3,s4,s5,s6,s7,s8,s9⟩
          go_simp
          with_reducible rfl
         rotate_left
         ·
          simp only [Act.put,zA,zB,zC,i64_w,i32_w]
          rfl
         refine take_ (i:=6) (N:=some 25) (v:=?_) (a':=?_) #[true,true,true,true,true,true,true,false,false,false,false] rfl rfl (take_ofW HT_.out HW_.out (by kernel_rfl)) (fun _ _ _ h=>h) (Or.inl ⟨by rfl,?_⟩) hHeld ?_ ?_
         rotate_left
         ·
          rintro w' ⟨s0,s1,s2,s3,s4,s5,s6,s7,s8,s9⟩
          go_simp
          with_reducible rfl
         rotate_left
         ·
          simp only [Act.put,zA,zB,zC,i64_w,i32_w]
          rfl
         refine pure_ (i:=7) (N:=some 26) (v:=?_) (a':=?_) #[true,true,true,true,true,true,true,true,false,false,false] rfl rfl (any_of HT_.out (by kernel_rfl)) (fun _ _ _ h=>h) (Or.inl ⟨by rfl,?_⟩) ?_ ?_
         rotate_left
         ·
          intro w'
          go_simp
          with_reducible rfl
         rotate_left
         ·
          simp only [Act.put,zA,zB,zC,i64_w,i32_w]
          rfl
         refine take_ (i:=8) (N:=some 27) (v:=?_) (a':=?_) #[true,true,true,true,true,true,true,true,true,false,false] rfl rfl (take_ofW HT_.out HW_.out (by kernel_rfl)) (fun _ _ _ h=>h) (Or.inl ⟨by rfl,?_⟩) hHeld ?_ ?_
         rotate_left
         ·
          rintro w' ⟨s0,s1,s2,s3,s4,s5,s6,s7,s8,s9⟩
          go_simp
          with_reducible rfl
         rotate_left
         ·
          simp only [Act.put,zA,zB,zC,i64_w,i32_w]
          rfl
         refine one_ (i:=9) (N:=some 9) #[true,true,true,true,true,true,true,true,true,true,false] rfl rfl (one_of HT_.out (by kernel_rfl)) (by decide) (fun K hK=>?_)
         refine box_step ?hg (N:=9) ?hd (cs:=#[.int .i64 0,.int .i64 0,.slice none 0 0]) (t:=41) ?hr ?_;(case hd=>rfl);(case hg=>rfl);(case hr=>first|(go_simp;done)|(go_simp;rfl))
         intro gb181 hg w14 hbox hb
         have n0_:=zF (Kd.R_below (by (with_reducible repeat (first|apply Kd.R_alloc|apply Kd.R_drewN|apply Kd.R_drew));exact HO_6.out) hb)
         have n1_:=zF (blk_below (g:=gb177) (o:=.cells #[.slice A0_0 l0_0.length c0_0,.slice (some ad180) l0_1.length c0_1,.slice A0_2 l0_2.length c0_2,.slice A0_3 l0_3.length c0_3,.slice A0_4 l0_4.length c0_4,.slice A0_5 l0_5.length c0_5] 81 (0,0)) (by (with_reducible repeat (first|refine blk_drewN ?_ _|refine blk_drew ?_|refine blk_alloc ?_ _));exact BK177.out) hb)
         have n2_:=zF (blk_below (g:=gb178) (o:=.cells #[.bool false,.slice none 0 0] 47 (0,0)) (by (with_reducible repeat (first|refine blk_drewN ?_ _|refine blk_drew ?_|refine blk_alloc ?_ _));exact BK178.out) hb)
         have n3_:=zF (below_step (by repeat (first|(with_reducible first|exact HB.out|apply below_alloc|apply pw_below_drewN|apply below_drew1|refine below_set ?_ GE177.out|refine below_set ?_ GE178.out)|exact HB.out)) hb)
         have n4_:=zF (hbox)
         have n5_:=zF ((by rw [hg];exact (below_size (by repeat (first|(with_reducible first|exact HB.out|apply below_alloc|apply pw_below_drewN|apply below_drew1|refine below_set ?_ GE177.out|refine below_set ?_ GE178.out)|exact HB.out))):w.heap.size≤gb181))
         have n6_:=zF ((by rw [hg];exact (below_size (by repeat (first|(with_reducible first|exact HB.out|apply below_alloc|apply pw_below_drewN|apply below_drew1|refine below_set ?_ GE177.out|refine below_set ?_ GE178.out)|exact HB.out))):w.heap.size≤gb181))
         have n7_:=zF ((by rw [hg];exact Nat.ne_of_lt (blk_lt (g:=gb177) (o:=.cells #[.slice A0_0 l0_0.length c0_0,.slice (some ad180) l0_1.length c0_1,.slice A0_2 l0_2.length c0_2,.slice A0_3 l0_3.length c0_3,.slice A0_4 l0_4.length c0_4,.slice A0_5 l0_5.length c0_5] 81 (0,0)) (by (with_reducible repeat (first|refine blk_drewN ?_ _|refine blk_drew ?_|refine blk_alloc ?_ _));exact BK177.out)):gb177≠gb181))
         have n8_:=zF ((by rw [hg];exact Nat.ne_of_gt (blk_lt (g:=gb177) (o:=.cells #[.slice A0_0 l0_0.length c0_0,.slice (some ad180) l0_1.length c0_1,.slice A0_2 l0_2.length c0_2,.slice A0_3 l0_3.length c0_3,.slice A0_4 l0_4.length c0_4,.slice A0_5 l0_5.length c0_5] 81 (0,0)) (by (with_reducible repeat (first|refine blk_drewN ?_ _|refine blk_drew ?_|refine blk_alloc ?_ _));exact BK177.out)):gb181≠gb177))
         have n9_:=zF ((by rw [hg];exact Nat.ne_of_lt (blk_lt (g:=gb178) (o:=.cells #[.bool false,.slice none 0 0] 47 (0,0)) (by (with_reducible repeat (first|refine blk_drewN ?_ _|refine blk_drew ?_|refine blk_alloc ?_ _));exact BK178.out)):gb178≠gb181))
         have n10_:=zF ((by rw [hg];exact Nat.ne_of_gt (blk_lt (g:=gb178) (o:=.cells #[.bool false,.slice none 0 0] 47 (0,0)) (by (with_reducible repeat (first|refine blk_drewN ?_ _|refine blk_drew ?_|refine blk_alloc ?_ _));exact BK178.out)):gb181≠gb178))
         clear HO_6 BK177 BK178 HB
         have HO_6:=n0_
         have BK177:=n1_
         have BK178:=n2_
         have HB:=n3_
         have BK181:=n4_
         have GW181:=n5_
         have GE181:=n6_
         have NB177_181:=n7_
         have NB181_177:=n8_
         have NB178_181:=n9_
         have NB181_178:=n10_
         clear n0_ n1_ n2_ n3_ n4_ n5_ n6_ n7_ n8_ n9_ n10_ hb hbox hg
         refine hK.out _ _ ⟨(blk_cell BK177.out 0).trans rfl,(blk_cell BK177.out 1).trans rfl,(blk_cell BK177.out 2).trans rfl,(blk_cell BK177.out 3).trans rfl,(blk_cell BK177.out 4).trans rfl,(blk_cell BK177.out 5).trans rfl,((HB.out.cell (World.block_lt_of_cell? w _ hw179_0)).trans hw179_0),((HB.out.cell (World.block_lt_of_cell? w _ hw180_0)).trans hw180_0),((HB.out.cell (World.block_lt_of_cell? w _ hw180_1)).trans hw180_1),((HB.out.cell (World.block_lt_of_cell? w _ hw180_2)).trans hw180_2)⟩ (fun hHeld=>?_)
         clear hK K
         refine norm_ (a':=?_) ?_ ?_
         rotate_left
         ·
          show Act.put _ (some 9) _=_
          simp only [Act.put,zA,zB,zC,i64_w,i32_w]
          rfl
         refine one_ (i:=10) (N:=none) #[true,true,true,true,true,true,true,true,true,true,true] rfl rfl (one_of HT_.out (by kernel_rfl)) (by decide) (fun K hK=>?_)
         have hs15:w14.cell? ⟨gb181,0,none⟩=some (.int .i64 0):=(blk_cell BK181.out 0).trans rfl
         have hfs15:=blk_frozen BK181.out 0
         have hns15_0:=NB177_181.out
         have hns15_1:=NB178_181.out
         have hms15_0:=NB181_177.out
         have hms15_1:=NB181_178.out
         have hs16:w14.cell? ⟨gb181,1,none⟩=some (.int .i64 0):=(blk_cell BK181.out 1).trans rfl
         have hfs16:=blk_frozen BK181.out 1
         have hns16_0:=NB177_181.out
         have hns16_1:=NB178_181.out
         have hms16_0:=NB181_177.out
         have hms16_1:=NB181_178.out
         have hs17:w14.cell? ⟨gb181,2,none⟩=some (.slice none 0 0):=(blk_cell BK181.out 2).trans rfl
         have hfs17:=blk_frozen BK181.out 2
         have hns17_0:=NB177_181.out
         have hns17_1:=NB178_181.out
         have hms17_0:=NB181_177.out
         have hms17_1:=NB181_178.out
         refine skip_ (w1:=?_) (by rfl) rfl ?_ ?_
         rotate_left
         ·
          go_simp
          rfl
         refine hK.out _ _ ⟨((cell_far (p:=⟨gb181,_,none⟩) NB177_181.out _).trans (((cell_far (p:=⟨gb181,_,none⟩) NB177_181.out _).trans (((cell_far (p:=⟨gb181,_,none⟩) NB177_181.out _).trans (hHeld.1)))))),((cell_far (p:=⟨gb181,_,none⟩) NB177_181.out _).trans (((cell_far (p:=⟨gb181,_,none⟩) NB177_181.out _).trans (((cell_far (p:=⟨gb181,_,none⟩) NB177_181.out _).trans (hHeld.2.1)))))),((cell_far (p:=⟨gb181,_,none⟩) NB177_181.out _).trans (((cell_far (p:=⟨gb181,_,none⟩) NB177_181.out _).trans (((cell_far (p:=⟨gb181,_,none⟩) NB177_181.out _).trans (hHeld.2.2.1)))))),((cell_far (p:=⟨gb181,_,none⟩) NB177_181.out _).trans (((cell_far (p:=⟨gb181,_,none⟩) NB177_181.out _).trans (((cell_far (p:=⟨gb181,_,none⟩) NB177_181.out _).trans (hHeld.2.2.2.1)))))),((cell_far (p:=⟨gb181,_,none⟩) NB177_181.out _).trans (((cell_far (p:=⟨gb181,_,none⟩) NB177_181.out _).trans (((cell_far (p:=⟨gb181,_,none⟩) NB177_181.out _).trans (hHeld.2.2.2.2.1)))))),((cell_far (p:=⟨gb181,_,none⟩) NB177_181.out _).trans (((cell_far (p:=⟨gb181,_,none⟩) NB177_181.out _).trans (((cell_far (p:=⟨gb181,_,none⟩) NB177_181.out _).trans (hHeld.2.2.2.2.2.1)))))),((cell_far (p:=⟨gb181,_,none⟩) (by first|exact Nat.ne_of_lt (Nat.lt_of_lt_of_le (by have:=World.block_lt_of_cell? _ _ hw179_0;first|rwa [add_block] at this|exact this) GW181.out)|(rw [add_block];exact Nat.ne_of_lt (Nat.lt_of_lt_of_le (by have:=World.block_lt_of_cell? _ _ hw179_0;first|rwa [add_block] at this|exact this) GW181.out))|(show (Addr.add _ _).block≠_;rw [add_block];exact Nat.ne_of_lt (Nat.lt_of_lt_of_le (by have:=World.block_lt_of_cell? _ _ hw179_0;first|rwa [add_block] at this|exact this) GW181.out))|(dsimp only;exact Nat.ne_of_lt (Nat.lt_of_lt_of_le (by have:=World.block_lt_of_cell? _ _ hw179_0;first|rwa [add_block] at this|exact this) GW181.out))) _).trans (((cell_far (p:=⟨gb181,_,none⟩) (by first|exact Nat.ne_of_lt (Nat.lt_of_lt_of_le (by have:=World.block_lt_of_cell? _ _ hw179_0;first|rwa [add_block] at this|exact this) GW181.out)|(rw [add_block];exact Nat.ne_of_lt (Nat.lt_of_lt_of_le (by have:=World.block_lt_of_cell? _ _ hw179_0;first|rwa [add_block] at this|exact this) GW181.out))|(show (Addr.add _ _).block≠_;rw [add_block];exact Nat.ne_of_lt (Nat.lt_of_lt_of_le (by have:=World.block_lt_of_cell? _ _ hw179_0;first|rwa [add_block] at this|exact this) GW181.out))|(dsimp only;exact Nat.ne_of_lt (Nat.lt_of_lt_of_le (by have:=World.block_lt_of_cell? _ _ hw179_0;first|rwa [add_block] at this|exact this) GW181.out))) _).trans (((cell_far (p:=⟨gb181,_,none⟩) (by first|exact Nat.ne_of_lt (Nat.lt_of_lt_of_le (by have:=World.block_lt_of_cell? _ _ hw179_0;first|rwa [add_block] at this|exact this) GW181.out)|(rw [add_block];exact Nat.ne_of_lt (Nat.lt_of_lt_of_le (by have:=World.block_lt_of_cell? _ _ hw179_0;first|rwa [add_block] at this|exact this) GW181.out))|(show (Addr.add _ _).block≠_;rw [add_block];exact Nat.ne_of_lt (Nat.lt_of_lt_of_le (by have:=World.block_lt_of_cell? _ _ hw179_0;first|rwa [add_block] at this|exact this) GW181.out))|(dsimp only;exact Nat.ne_of_lt (Nat.lt_of_lt_of_le (by have:=World.block_lt_of_cell? _ _ hw179_0;first|rwa [add_block] at this|exact this) GW181.out))) _).trans (hHeld.2.2.2.2.2.2.1)))))),((cell_far (p:=⟨gb181,_,none⟩) (by first|exact Nat.ne_of_lt (Nat.lt_of_lt_of_le (by have:=World.block_lt_of_cell? _ _ hw180_0;first|rwa [add_block] at this|exact this) GW181.out)|(rw [add_block];exact Nat.ne_of_lt (Nat.lt_of_lt_of_le (by have:=World.block_lt_of_cell? _ _ hw180_0;first|rwa [add_block] at this|exact this) GW181.out))|(show (Addr.add _ _).block≠_;rw [add_block];exact Nat.ne_of_lt (Nat.lt_of_lt_of_le (by have:=World.block_lt_of_cell? _ _ hw180_0;first|rwa [add_block] at this|exact this) GW181.out))|(dsimp only;exact Nat.ne_of_lt (Nat.lt_of_lt_of_le (by have:=World.block_lt_of_cell? _ _ hw180_0;first|rwa [add_block] at this|exact this) GW181.out))) _).trans (((cell_far (p:=⟨gb181,_,none⟩) (by first|exact Nat.ne_of_lt (Nat.lt_of_lt_of_le (by have:=World.block_lt_of_cell? _ _ hw180_0;first|rwa [add_block] at this|exact this) GW181.out)|(rw [add_block];exact Nat.ne_of_lt (Nat.lt_of_lt_of_le (by have:=World.block_lt_of_cell? _ _ hw180_0;first|rwa [add_block] at this|exact this) GW181.out))|(show (Addr.add _ _).block≠_;rw [add_block];exact Nat.ne_of_lt (Nat.lt_of_lt_of_le (by have:=World.block_lt_of_cell? _ _ hw180_0;first|rwa [add_block] at this|exact this) GW181.out))|(dsimp only;exact Nat.ne_of_lt (Nat.lt_of_lt_of_le (by have:=World.block_lt_of_cell? _ _ hw180_0;first|rwa [add_block] at this|exact this) GW181.out))) _).trans (((cell_far (p:=⟨gb181,_,none⟩) (by first|exact Nat.ne_of_lt (Nat.lt_of_lt_of_le (by have:=World.block_lt_of_cell? _ _ hw180_0;first|rwa [add_block] at this|exact this) GW181.out)|(rw [add_block];exact Nat.ne_of_lt (Nat.lt_of_lt_of_le (by have:=World.block_lt_of_cell? _ _ hw180_0;first|rwa [add_block] at this|exact this) GW181.out))|(show (Addr.add _ _).block≠_;rw [add_block];exact Nat.ne_of_lt (Nat.lt_of_lt_of_le (by have:=World.block_lt_of_cell? _ _ hw180_0;first|rwa [add_block] at this|exact this) GW181.out))|(dsimp only;exact Nat.ne_of_lt (Nat.lt_of_lt_of_le (by have:=World.block_lt_of_cell? _ _ hw180_0;first|rwa [add_block] at this|exact this) GW181.out))) _).trans (hHeld.2.2.2.2.2.2.2.1)))))),((cell_far (p:=⟨gb181,_,none⟩) (by first|exact Nat.ne_of_lt (Nat.lt_of_lt_of_le (by have:=World.block_lt_of_cell? _ _ hw180_1;first|rwa [add_block] at this|exact this) GW181.out)|(rw [add_block];exact Nat.ne_of_lt (Nat.lt_of_lt_of_le (by have:=World.block_lt_of_cell? _ _ hw180_1;first|rwa [add_block] at this|exact this) GW181.out))|(show (Addr.add _ _).block≠_;rw [add_block];exact Nat.ne_of_lt (Nat.lt_of_lt_of_le (by have:=World.block_lt_of_cell? _ _ hw180_1;first|rwa [add_block] at this|exact this) GW181.out))|(dsimp only;exact Nat.ne_of_lt (Nat.lt_of_lt_of_le (by have:=World.block_lt_of_cell? _ _ hw180_1;first|rwa [add_block] at this|exact this) GW181.out))) _).trans (((cell_far (p:=⟨gb181,_,none⟩) (by first|exact Nat.ne_of_lt (Nat.lt_of_lt_of_le (by have:=World.block_lt_of_cell? _ _ hw180_1;first|rwa [add_block] at this|exact this) GW181.out)|(rw [add_block];exact Nat.ne_of_lt (Nat.lt_of_lt_of_le (by have:=World.block_lt_of_cell? _ _ hw180_1;first|rwa [add_block] at this|exact this) GW181.out))|(show (Addr.add _ _).block≠_;rw [add_block];exact Nat.ne_of_lt (Nat.lt_of_lt_of_le (by have:=World.block_lt_of_cell? _ _ hw180_1;first|rwa [add_block] at this|exact this) GW181.out))|(dsimp only;exact Nat.ne_of_lt (Nat.lt_of_lt_of_le (by have:=World.block_lt_of_cell? _ _ hw180_1;first|rwa [add_block] at this|exact this) GW181.out))) _).trans (((cell_far (p:=⟨gb181,_,none⟩) (by first|exact Nat.ne_of_lt (Nat.lt_of_lt_of_le (by have:=World.block_lt_of_cell? _ _ hw180_1;first|rwa [add_block] at this|exact this) GW181.out)|(rw [add_block];exact Nat.ne_of_lt (Nat.lt_of_lt_of_le (by have:=World.block_lt_of_cell? _ _ hw180_1;first|rwa [add_block] at this|exact this) GW181.out))|(show (Addr.add _ _).block≠_;rw [add_block];exact Nat.ne_of_lt (Nat.lt_of_lt_of_le (by have:=World.block_lt_of_cell? _ _ hw180_1;first|rwa [add_block] at this|exact this) GW181.out))|(dsimp only;exact Nat.ne_of_lt (Nat.lt_of_lt_of_le (by have:=World.block_lt_of_cell? _ _ hw180_1;first|rwa [add_block] at this|exact this) GW181.out))) _).trans (hHeld.2.2.2.2.2.2.2.2.1)))))),((cell_far (p:=⟨gb181,_,none⟩) (by first|exact Nat.ne_of_lt (Nat.lt_of_lt_of_le (by have:=World.block_lt_of_cell? _ _ hw180_2;first|rwa [add_block] at this|exact this) GW181.out)|(rw [add_block];exact Nat.ne_of_lt (Nat.lt_of_lt_of_le (by have:=World.block_lt_of_cell? _ _ hw180_2;first|rwa [add_block] at this|exact this) GW181.out))|(show (Addr.add _ _).block≠_;rw [add_block];exact Nat.ne_of_lt (Nat.lt_of_lt_of_le (by have:=World.block_lt_of_cell? _ _ hw180_2;first|rwa [add_block] at this|exact this) GW181.out))|(dsimp only;exact Nat.ne_of_lt (Nat.lt_of_lt_of_le (by have:=World.block_lt_of_cell? _ _ hw180_2;first|rwa [add_block] at this|exact this) GW181.out))) _).trans (((cell_far (p:=⟨gb181,_,none⟩) (by first|exact Nat.ne_of_lt (Nat.lt_of_lt_of_le (by have:=World.block_lt_of_cell? _ _ hw180_2;first|rwa [add_block] at this|exact this) GW181.out)|(rw [add_block];exact Nat.ne_of_lt (Nat.lt_of_lt_of_le (by have:=World.block_lt_of_cell? _ _ hw180_2;first|rwa [add_block] at this|exact this) GW181.out))|(show (Addr.add _ _).block≠_;rw [add_block];exact Nat.ne_of_lt (Nat.lt_of_lt_of_le (by have:=World.block_lt_of_cell? _ _ hw180_2;first|rwa [add_block] at this|exact this) GW181.out))|(dsimp only;exact Nat.ne_of_lt (Nat.lt_of_lt_of_le (by have:=World.block_lt_of_cell? _ _ hw180_2;first|rwa [add_block] at this|exact this) GW181.out))) _).trans (((cell_far (p:=⟨gb181,_,none⟩) (by first|exact Nat.ne_of_lt (Nat.lt_of_lt_of_le (by have:=World.block_lt_of_cell? _ _ hw180_2;first|rwa [add_block] at this|exact this) GW181.out)|(rw [add_block];exact Nat.ne_of_lt (Nat.lt_of_lt_of_le (by have:=World.block_lt_of_cell? _ _ hw180_2;first|rwa [add_block] at this|exact this) GW181.out))|(show (Addr.add _ _).block≠_;rw [add_block];exact Nat.ne_of_lt (Nat.lt_of_lt_of_le (by have:=World.block_lt_of_cell? _ _ hw180_2;first|rwa [add_block] at this|exact this) GW181.out))|(dsimp only;exact Nat.ne_of_lt (Nat.lt_of_lt_of_le (by have:=World.block_lt_of_cell? _ _ hw180_2;first|rwa [add_block] at this|exact this) GW181.out))) _).trans (hHeld.2.2.2.2.2.2.2.2.2))))))⟩ (fun hHeld=>?_)
         clear hK K
         refine done_ (done_of HT_.out (by kernel_rfl)) ?_
         try go_wp2
         have n0_:Aside0 (Kd.R k39 39 (((w14.setCell ⟨gb181,0,none⟩ (.int .i64 ((rd_T41 l0_1 (rd l1 x8_1)).f0))).setCell ⟨gb181,1,none⟩ (.int .i64 ((rd_T41 l0_1 (rd l1 x8_1)).f1))).setCell ⟨gb181,2,none⟩ (.slice A180_2 ((rd_T41 l0_1 (rd l1 x8_1)).f2).length c180_2)) w.heap.size (fun _=>True) u6 x6_1):=⟨by (with_reducible repeat (first|apply Kd.R_alloc|apply Kd.R_drewN|apply Kd.R_drew));exact Kd.R_mono (Kd.R_far (p:=⟨gb181,2,none⟩) (Kd.R_far (p:=⟨gb181,1,none⟩) (Kd.R_far (p:=⟨gb181,0,none⟩) (Kd.R_types HO_6.out BK181.out (by decide)) (fun _ hk=>hk.2) (.int .i64 ((rd_T41 l0_1 (rd l1 x8_1)).f0))) (fun _ hk=>hk.2) (.int .i64 ((rd_T41 l0_1 (rd l1 x8_1)).f1))) (fun _ hk=>hk.2) (.slice A180_2 ((rd_T41 l0_1 (rd l1 x8_1)).f2).length c180_2)) (fun _ hk=>trivial)⟩
         have n1_:Aside0 ((((w14.setCell ⟨gb181,0,none⟩ (.int .i64 ((rd_T41 l0_1 (rd l1 x8_1)).f0))).setCell ⟨gb181,1,none⟩ (.int .i64 ((rd_T41 l0_1 (rd l1 x8_1)).f1))).setCell ⟨gb181,2,none⟩ (.slice A180_2 ((rd_T41 l0_1 (rd l1 x8_1)).f2).length c180_2)).heap[gb177]? = some (.cells #[.slice A0_0 l0_0.length c0_0,.slice (some ad180) l0_1.length c0_1,.slice A0_2 l0_2.length c0_2,.slice A0_3 l0_3.length c0_3,.slice A0_4 l0_4.length c0_4,.slice A0_5 l0_5.length c0_5] 81 (0,0))):=⟨by (with_reducible repeat (first|refine blk_drewN ?_ _|refine blk_drew ?_|refine blk_alloc ?_ _));refine blk_far ?_ NB177_181.out _;(with_reducible repeat (first|refine blk_drewN ?_ _|refine blk_drew ?_|refine blk_alloc ?_ _));refine blk_far ?_ NB177_181.out _;(with_reducible repeat (first|refine blk_drewN ?_ _|refine blk_drew ?_|refine blk_alloc ?_ _));refine blk_far ?_ NB177_181.out _;(with_reducible repeat (first|refine blk_drewN ?_ _|refine blk_drew ?_|refine blk_alloc ?_ _));exact BK177.out⟩
         have n2_:Aside0 ((((w14.setCell ⟨gb181,0,none⟩ (.int .i64 ((rd_T41 l0_1 (rd l1 x8_1)).f0))).setCell ⟨gb181,1,none⟩ (.int .i64 ((rd_T41 l0_1 (rd l1 x8_1)).f1))).setCell ⟨gb181,2,none⟩ (.slice A180_2 ((rd_T41 l0_1 (rd l1 x8_1)).f2).length c180_2)).heap[gb178]? = some (.cells #[.bool false,.slice none 0 0] 47 (0,0))):=⟨by (with_reducible repeat (first|refine blk_drewN ?_ _|refine blk_drew ?_|refine blk_alloc ?_ _));refine blk_far ?_ NB178_181.out _;(with_reducible repeat (first|refine blk_drewN ?_ _|refine blk_drew ?_|refine blk_alloc ?_ _));refine blk_far ?_ NB178_181.out _;(with_reducible repeat (first|refine blk_drewN ?_ _|refine blk_drew ?_|refine blk_alloc ?_ _));refine blk_far ?_ NB178_181.out _;(with_reducible repeat (first|refine blk_drewN ?_ _|refine blk_drew ?_|refine blk_alloc ?_ _));exact BK178.out⟩
         have n3_:Aside0 ((((w14.setCell ⟨gb181,0,none⟩ (.int .i64 ((rd_T41 l0_1 (rd l1 x8_1)).f0))).setCell ⟨gb181,1,none⟩ (.int .i64 ((rd_T41 l0_1 (rd l1 x8_1)).f1))).setCell ⟨gb181,2,none⟩ (.slice A180_2 ((rd_T41 l0_1 (rd l1 x8_1)).f2).length c180_2)).heap[gb181]? = some (.cells #[.int .i64 ((rd_T41 l0_1 (rd l1 x8_1)).f0),.int .i64 ((rd_T41 l0_1 (rd l1 x8_1)).f1),.slice A180_2 ((rd_T41 l0_1 (rd l1 x8_1)).f2).length c180_2] 41 (0,0))):=⟨by (with_reducible repeat (first|refine blk_drewN ?_ _|refine blk_drew ?_|refine blk_alloc ?_ _));refine blk_put (cs:=#[.int .i64 ((rd_T41 l0_1 (rd l1 x8_1)).f0),.int .i64 ((rd_T41 l0_1 (rd l1 x8_1)).f1),.slice none 0 0]) ?_ 2 _ rfl;(with_reducible repeat (first|refine blk_drewN ?_ _|refine blk_drew ?_|refine blk_alloc ?_ _));refine blk_put (cs:=#[.int .i64 ((rd_T41 l0_1 (rd l1 x8_1)).f0),.int .i64 0,.slice none 0 0]) ?_ 1 _ rfl;(with_reducible repeat (first|refine blk_drewN ?_ _|refine blk_drew ?_|refine blk_alloc ?_ _));refine blk_put (cs:=#[.int .i64 0,.int .i64 0,.slice none 0 0]) ?_ 0 _ rfl;(with_reducible repeat (first|refine blk_drewN ?_ _|refine blk_drew ?_|refine blk_alloc ?_ _));exact BK181.out⟩
         have n4_:Aside0 (Below w.heap.size w (((w14.setCell ⟨gb181,0,none⟩ (.int .i64 ((rd_T41 l0_1 (rd l1 x8_1)).f0))).setCell ⟨gb181,1,none⟩ (.int .i64 ((rd_T41 l0_1 (rd l1 x8_1)).f1))).setCell ⟨gb181,2,none⟩ (.slice A180_2 ((rd_T41 l0_1 (rd l1 x8_1)).f2).length c180_2))):=⟨by repeat (first|(with_reducible first|exact HB.out|apply below_alloc|apply pw_below_drewN|apply below_drew1|refine below_set ?_ GE177.out|refine below_set ?_ GE178.out|refine below_set ?_ GE181.out)|exact HB.out)⟩
         (try clear HO_6)
         (try clear BK177)
         (try clear BK178)
         (try clear BK181)
         (try clear HB)
         generalize (((w14.setCell ⟨gb181,0,none⟩ (.int .i64 ((rd_T41 l0_1 (rd l1 x8_1)).f0))).setCell ⟨gb181,1,none⟩ (.int .i64 ((rd_T41 l0_1 (rd l1 x8_1)).f1))).setCell ⟨gb181,2,none⟩ (.slice A180_2 ((rd_T41 l0_1 (rd l1 x8_1)).f2).length c180_2))=w18 at n0_ n1_ n2_ n3_ n4_ ⊢
         have HO_6:=n0_
         have BK177:=n1_
         have BK178:=n2_
         have BK181:=n3_
         have HB:=n4_
         clear n0_ n1_ n2_ n3_ n4_
         have n0_:=zF (Kd.R_drew HO_6.out)
         have n1_:=zF (blk_drew BK177.out)
         have n2_:=zF (blk_drew BK178.out)
         have n3_:=zF (blk_drew BK181.out)
         have n4_:=zF (below_drew1 HB.out)
         clear HO_6 BK177 BK178 BK181 HB
         have HO_6:=n0_
         have BK177:=n1_
         have BK178:=n2_
         have BK181:=n3_
         have HB:=n4_
         clear n0_ n1_ n2_ n3_ n4_
         have p182:0≤(x8_1:Int):=zE (by first|(with_reducible assumption)|assumption)
         have q182:x8_1 < (l1.length:Int):=zE (by first|(with_reducible assumption)|assumption)
         obtain ⟨ad182,e182,hx182_0⟩:=Kd.at_int HR1.out x8_1 p182 q182
         have hw182_0:=hx182_0
         obtain rfl:ad179=ad182:=(by injection e182)
         replace hx182_0:=(HB.out.cell (World.block_lt_of_cell? w _ hx182_0)).trans hx182_0
         replace p182:=eq_true p182
         replace q182:=eq_true q182
         refine start_ (n:=7) (S:=fun w'=>w'.cell? ⟨gb177,0,none⟩=some (.slice A0_0 l0_0.length c0_0)∧w'.cell? ⟨gb177,1,none⟩=some (.slice (some ad180) l0_1.length c0_1)∧w'.cell? ⟨gb177,2,none⟩=some (.slice A0_2 l0_2.length c0_2)∧w'.cell? ⟨gb177,3,none⟩=some (.slice A0_3 l0_3.length c0_3)∧w'.cell? ⟨gb177,4,none⟩=some (.slice A0_4 l0_4.length c0_4)∧w'.cell? ⟨gb177,5,none⟩=some (.slice A0_5 l0_5.length c0_5)∧w'.cell? (ad179.add (x8_1).toNat)=some (.int .i64 (rd l1 x8_1))) (ds:=[]) #[false,false,false,false,false,false,false] (by kernel_rfl) rfl rfl ⟨(blk_cell BK177.out 0).trans rfl,(blk_cell BK177.out 1).trans rfl,(blk_cell BK177.out 2).trans rfl,(blk_cell BK177.out 3).trans rfl,(blk_cell BK177.out 4).trans rfl,(blk_cell BK177.out 5).trans rfl,((HB.out.cell (World.block_lt_of_cell? w _ hw182_0)).trans hw182_0)⟩ (fun hHeld=>?_)
         generalize w18.drew=w19 at HO_6 BK177 BK178 BK181 HB hx182_0 hHeld ⊢
         refine pure_ (i:=1) (N:=some 29) (v:=?_) (a':=?_) #[false,true,false,false,false,false,false] rfl rfl (by kernel_rfl) (fun _ _ _ h=>h) (Or.inl ⟨by rfl,?_⟩) ?_ ?_
         rotate_left
         ·
          intro w'
          go_simp
          with_reducible rfl
         rotate_left
         ·
          simp only [Act.put,zA,zB,zC,i64_w,i32_w]
          rfl
         refine pure_ (i:=2) (N:=some 30) (v:=?_) (a':=?_) #[false,true,true,false,false,false,false] rfl rfl (by kernel_rfl) (fun _ _ _ h=>h) (Or.inl ⟨by rfl,?_⟩) ?_ ?_
         rotate_left
         ·
          intro w'
          go_simp
          with_reducible rfl
         rotate_left
         ·
          simp only [Act.put,zA,zB,zC,i64_w,i32_w]
          rfl
         refine pure_ (i:=3) (N:=some 31) (v:=?_) (a':=?_) #[false,true,true,true,false,false,false] rfl rfl (by kernel_rfl) (fun _ _ _ h=>h) (Or.inl ⟨by rfl,?_⟩) ?_ ?_
         rotate_left
         ·
          intro w'
          go_simp
          with_reducible rfl
         rotate_left
         ·
          simp only [Act.put,zA,zB,zC,i64_w,i32_w]
          rfl
         refine take_ (i:=0) (N:=some 28) (v:=?_) (a':=?_) #[true,true,true,true,false,false,false] rfl rfl (by kernel_rfl) (fun _ _ _ h=>h) (Or.inl ⟨by rfl,?_⟩) hHeld ?_ ?_
         rotate_left
         ·
          rintro w' ⟨s0,s1,s2,s3,s4,s5,s6⟩
          go_simp
          with_reducible rfl
         rotate_left
         ·
          simp only [Act.put,zA,zB,zC,i64_w,i32_w]
          rfl
         refine take_ (i:=4) (N:=some 32) (v:=?_) (a':=?_) #[true,true,true,true,true,false,false] rfl rfl (by kernel_rfl) (fun _ _ _ h=>h) (Or.inl ⟨by rfl,?_⟩) hHeld ?_ ?_
         rotate_left
         ·
          rintro w' ⟨s0,s1,s2,s3,s4,s5,s6⟩
          go_simp
          with_reducible rfl
         rotate_left
         ·
          simp only [Act.put,zA,zB,zC,i64_w,i32_w]
          rfl
         refine one_ (i:=5) (N:=some 33) #[true,true,true,true,true,true,false] rfl rfl (by kernel_rfl) (by decide) (fun K hK=>?_)
         refine goes_ Try.func52 (by kernel_rfl) rfl #[.agg #[.slice A0_0 l0_0.length c0_0,.slice (some ad180) l0_1.length c0_1,.slice A0_2 l0_2.length c0_2,.slice A0_3 l0_3.length c0_3,.slice A0_4 l0_4.length c0_4,.slice A0_5 l0_5.length c0_5],.int .i64 (rd l1 x8_1)] (by rfl) rfl rfl (by (try simp only [List.map_toArray,List.map_cons,List.map_nil]);first|done|rfl|(simp only [List.length_drop,List.length_take];rfl)) ?_
         with_reducible refine (cohousingref24_best.calls k1 _ _ l0_0 _ _ l0_1 _ _ l0_2 _ _ l0_3 _ _ l0_4 _ _ l0_5 (rd l1 x8_1) t183 _ ?side1 ?side2 ?side3 ?side4 ?side5 ?side6 ?side7 ?side8 ?side9 ?side10 ?side11 ?side12 A9.out).mono ?_
         (case side1=>repeat (first|exact (Kd.C_below HR0_0.out HB.out)|(with_reducible refine Kd.C_alloc ?_ _)|(with_reducible refine Kd.C_drewN ?_ _)|(with_reducible refine Kd.C_drew ?_)))
         (case side2=>exact HC0_0.out)
         (case side3=>repeat (first|exact (Kd.C_below HR0_1.out HB.out)|(with_reducible refine Kd.C_alloc ?_ _)|(with_reducible refine Kd.C_drewN ?_ _)|(with_reducible refine Kd.C_drew ?_)))
         (case side4=>exact HC0_1.out)
         (case side5=>repeat (first|exact (Kd.C_below HR0_2.out HB.out)|(with_reducible refine Kd.C_alloc ?_ _)|(with_reducible refine Kd.C_drewN ?_ _)|(with_reducible refine Kd.C_drew ?_)))
         (case side6=>exact HC0_2.out)
         (case side7=>repeat (first|exact (Kd.C_below HR0_3.out HB.out)|(with_reducible refine Kd.C_alloc ?_ _)|(with_reducible refine Kd.C_drewN ?_ _)|(with_reducible refine Kd.C_drew ?_)))
         (case side8=>exact HC0_3.out)
         (case side9=>repeat (first|exact (Kd.C_below HR0_4.out HB.out)|(with_reducible refine Kd.C_alloc ?_ _)|(with_reducible refine Kd.C_drewN ?_ _)|(with_reducible refine Kd.C_drew ?_)))
         (case side10=>exact HC0_4.out)
         (case side11=>repeat (first|exact (Kd.C_below HR0_5.out HB.out)|(with_reducible refine Kd.C_alloc ?_ _)|(with_reducible refine Kd.C_drewN ?_ _)|(with_reducible refine Kd.C_drew ?_)))
         (case side12=>exact HC0_5.out)
         rintro e w20 ⟨rfl,hb⟩
         refine ⟨_,rfl,?_⟩
         have n0_:=zF (Kd.R_below (by (with_reducible repeat (first|apply Kd.R_alloc|apply Kd.R_drewN|apply Kd.R_drew));exact HO_6.out) hb)
         have n1_:=zF (blk_below (g:=gb177) (o:=.cells #[.slice A0_0 l0_0.length c0_0,.slice (some ad180) l0_1.length c0_1,.slice A0_2 l0_2.length c0_2,.slice A0_3 l0_3.length c0_3,.slice A0_4 l0_4.length c0_4,.slice A0_5 l0_5.length c0_5] 81 (0,0)) (by (with_reducible repeat (first|refine blk_drewN ?_ _|refine blk_drew ?_|refine blk_alloc ?_ _));exact BK177.out) hb)
         have n2_:=zF (blk_below (g:=gb178) (o:=.cells #[.bool false,.slice none 0 0] 47 (0,0)) (by (with_reducible repeat (first|refine blk_drewN ?_ _|refine blk_drew ?_|refine blk_alloc ?_ _));exact BK178.out) hb)
         have n3_:=zF (blk_below (g:=gb181) (o:=.cells #[.int .i64 ((rd_T41 l0_1 (rd l1 x8_1)).f0),.int .i64 ((rd_T41 l0_1 (rd l1 x8_1)).f1),.slice A180_2 ((rd_T41 l0_1 (rd l1 x8_1)).f2).length c180_2] 41 (0,0)) (by (with_reducible repeat (first|refine blk_drewN ?_ _|refine blk_drew ?_|refine blk_alloc ?_ _));exact BK181.out) hb)
         have n4_:=zF (below_step (by repeat (first|(with_reducible first|exact HB.out|apply below_alloc|apply pw_below_drewN|apply below_drew1|refine below_set ?_ GE177.out|refine below_set ?_ GE178.out|refine below_set ?_ GE181.out)|exact HB.out)) hb)
         clear HO_6 BK177 BK178 BK181 HB
         have HO_6:=n0_
         have BK177:=n1_
         have BK178:=n2_
         have BK181:=n3_
         have HB:=n4_
         clear n0_ n1_ n2_ n3_ n4_
         (try clear hb)
         (try clear hb2)
         (try clear hk)
         (try clear hi)
         refine hK.out _ _ ⟨(blk_cell BK177.out 0).trans rfl,(blk_cell BK177.out 1).trans rfl,(blk_cell BK177.out 2).trans rfl,(blk_cell BK177.out 3).trans rfl,(blk_cell BK177.out 4).trans rfl,(blk_cell BK177.out 5).trans rfl,((HB.out.cell (World.block_lt_of_cell? w _ hw182_0)).trans hw182_0)⟩ (fun hHeld=>?_)
         clear hK K
         refine norm_ (a':=?_) ?_ ?_
         rotate_left
         ·
          show Act.put _ (some 33) _=_
          simp only [Act.put,zA,zB,zC,i64_w,i32_w]
          rfl
         refine pure_ (i:=6) (N:=some 10) (v:=?_) (a':=?_) #[true,true,true,true,true,true,true] rfl rfl (by kernel_rfl) (fun _ _ _ h=>h) (Or.inl ⟨by rfl,?_⟩) ?_ ?_
         rotate_left
         ·
          intro w'
          go_simp
          with_reducible rfl
         rotate_left
         ·
          simp only [Act.put,zA,zB,zC,i64_w,i32_w]
          rfl
         refine done_ (by kernel_rfl) ?_
         have hnb21:=NB181_177.out
         have hnc21:=NB177_181.out
         have hnb22:=NB181_178.out
         have hnc22:=NB178_181.out
         have hcz23_0:w20.cell? ⟨gb181,0,none⟩=some (.int .i64 ((rd_T41 l0_1 (rd l1 x8_1)).f0)):=(blk_cell BK181.out 0).trans rfl
         have hcz23_1:w20.cell? ⟨gb181,1,none⟩=some (.int .i64 ((rd_T41 l0_1 (rd l1 x8_1)).f1)):=(blk_cell BK181.out 1).trans rfl
         have hcz23_2:w20.cell? ⟨gb181,2,none⟩=some (.slice A180_2 ((rd_T41 l0_1 (rd l1 x8_1)).f2).length c180_2):=(blk_cell BK181.out 2).trans rfl
         have hfz23_0:=blk_frozen BK181.out 0
         have hfz23_1:=blk_frozen BK181.out 1
         have hfz23_2:=blk_frozen BK181.out 2
         try go_wp2_with (first|((with_reducible refine gate_builtin (b:=.append) (xs:=#[.tmp 34,.tmp 41]) rfl ?_);at_builtin;refine Kd.R_append k39 (w0:=w) w.heap.size rfl (.tmp 34) (.tmp 41) 29 39 (.agg #[(.int .i64 0),(.int .i64 0),(.int .i64 0)]) 24 rfl Try.underlying29 info39 rfl (by decide) (by omega) u6 x6_1 (⟨(rd_T41 l0_1 (rd l1 x8_1)).f0,(rd_T41 l0_1 (rd l1 x8_1)).f1,t183⟩:S39) [.int .i64 ((rd_T41 l0_1 (rd l1 x8_1)).f0),.int .i64 ((rd_T41 l0_1 (rd l1 x8_1)).f1),.int .i64 t183] (fun _=>True) (fun _=>False) rfl rfl ?aP (fun _ hk=>hk.elim) ?aF ?aO ?aB ?aS ?aL ?_;(case aP=>exact k39_mkM _ _ _ (⟨(rd_T41 l0_1 (rd l1 x8_1)).f0,(rd_T41 l0_1 (rd l1 x8_1)).f1,t183⟩:S39));(case aB=>exact (by repeat (first|(with_reducible first|exact HB.out|apply below_alloc|apply pw_below_drewN|apply below_drew1|refine below_set ?_ GE177.out|refine below_set ?_ GE178.out|refine below_set ?_ GE181.out)|exact HB.out)));(case aF=>exact (fun _ _=>trivial));(case aO=>exact (by (with_reducible repeat (first|apply Kd.R_alloc|apply Kd.R_drewN|apply Kd.R_drew));exact HO_6.out));(case aS=>exact (below_size (by repeat (first|(with_reducible first|exact HB.out|apply below_alloc|apply pw_below_drewN|apply below_drew1|refine below_set ?_ GE177.out|refine below_set ?_ GE178.out|refine below_set ?_ GE181.out)|exact HB.out))));(case aL=>have:=LMc10.out;omega);intro v185 w24 ho hb hg hat;rw [← Ny184.out] at ho;have n0_:=zF (blk_grown (g:=gb177) (o:=.cells #[.slice A0_0 l0_0.length c0_0,.slice (some ad180) l0_1.length c0_1,.slice A0_2 l0_2.length c0_2,.slice A0_3 l0_3.length c0_3,.slice A0_4 l0_4.length c0_4,.slice A0_5 l0_5.length c0_5] 81 (0,0)) (by (with_reducible repeat (first|refine blk_drewN ?_ _|refine blk_drew ?_|refine blk_alloc ?_ _));exact BK177.out) hg (Kd.R_ne HO_6.out BK177.out (by decide)));have n1_:=zF (blk_grown (g:=gb178) (o:=.cells #[.bool false,.slice none 0 0] 47 (0,0)) (by (with_reducible repeat (first|refine blk_drewN ?_ _|refine blk_drew ?_|refine blk_alloc ?_ _));exact BK178.out) hg (Kd.R_ne HO_6.out BK178.out (by decide)));have n2_:=zF (blk_grown (g:=gb181) (o:=.cells #[.int .i64 ((rd_T41 l0_1 (rd l1 x8_1)).f0),.int .i64 ((rd_T41 l0_1 (rd l1 x8_1)).f1),.slice A180_2 ((rd_T41 l0_1 (rd l1 x8_1)).f2).length c180_2] 41 (0,0)) (by (with_reducible repeat (first|refine blk_drewN ?_ _|refine blk_drew ?_|refine blk_alloc ?_ _));exact BK181.out) hg (Kd.R_ne HO_6.out BK181.out (by decide)));have n3_:=zF (hb);have n4_:=zF (ho);clear BK177;clear BK178;clear BK181;clear HB;clear HO_6;have BK177:=n0_;have BK178:=n1_;have BK181:=n2_;have HB:=n3_;have HO186:=n4_;clear n0_ n1_ n2_ n3_ n4_;clear ho hb hg hat;have hnb25:=NB177_178.out;have hnc25:=NB178_177.out;have hcz26_0:w24.cell? ⟨gb177,0,none⟩=some (.slice A0_0 l0_0.length c0_0):=(blk_cell BK177.out 0).trans rfl;have hcz26_1:w24.cell? ⟨gb177,1,none⟩=some (.slice (some ad180) l0_1.length c0_1):=(blk_cell BK177.out 1).trans rfl;have hcz26_2:w24.cell? ⟨gb177,2,none⟩=some (.slice A0_2 l0_2.length c0_2):=(blk_cell BK177.out 2).trans rfl;have hcz26_3:w24.cell? ⟨gb177,3,none⟩=some (.slice A0_3 l0_3.length c0_3):=(blk_cell BK177.out 3).trans rfl;have hcz26_4:w24.cell? ⟨gb177,4,none⟩=some (.slice A0_4 l0_4.length c0_4):=(blk_cell BK177.out 4).trans rfl;have hcz26_5:w24.cell? ⟨gb177,5,none⟩=some (.slice A0_5 l0_5.length c0_5):=(blk_cell BK177.out 5).trans rfl;have hfz26_0:=blk_frozen BK177.out 0;have hfz26_1:=blk_frozen BK177.out 1;have hfz26_2:=blk_frozen BK177.out 2;have hfz26_3:=blk_frozen BK177.out 3;have hfz26_4:=blk_frozen BK177.out 4;have hfz26_5:=blk_frozen BK177.out 5)|((with_reducible refine gate_callee (f:=78) rfl ?_);refine goesL_ (some 45) rfl rfl Try.func78 (by kernel_rfl) rfl #[.agg #[.slice A0_0 l0_0.length c0_0,.slice (some ad180) l0_1.length c0_1,.slice A0_2 l0_2.length c0_2,.slice A0_3 l0_3.length c0_3,.slice A0_4 l0_4.length c0_4,.slice A0_5 l0_5.length c0_5],.int .i64 t183] rfl (by (try simp only [List.map_toArray,List.map_cons,List.map_nil]);first|done|rfl|(simp only [List.length_drop,List.length_take];rfl)) ?_;(with_reducible refine (cohousingref24_tenant.calls k1 _ _ l0_0 _ _ l0_1 _ _ l0_2 _ _ l0_3 _ _ l0_4 _ _ l0_5 t183 t187 _ ?side1 ?side2 ?side3 ?side4 ?side5 ?side6 ?side7 ?side8 ?side9 ?side10 ?side11 ?side12 A11.out).mono ?_);(case side1=>repeat (first|exact (Kd.C_below HR0_0.out HB.out)|(with_reducible refine Kd.C_alloc ?_ _)|(with_reducible refine Kd.C_drewN ?_ _)|(with_reducible refine Kd.C_drew ?_)));(case side2=>exact HC0_0.out);(case side3=>repeat (first|exact (Kd.C_below HR0_1.out HB.out)|(with_reducible refine Kd.C_alloc ?_ _)|(with_reducible refine Kd.C_drewN ?_ _)|(with_reducible refine Kd.C_drew ?_)));(case side4=>exact HC0_1.out);(case side5=>repeat (first|exact (Kd.C_below HR0_2.out HB.out)|(with_reducible refine Kd.C_alloc ?_ _)|(with_reducible refine Kd.C_drewN ?_ _)|(with_reducible refine Kd.C_drew ?_)));(case side6=>exact HC0_2.out);(case side7=>repeat (first|exact (Kd.C_below HR0_3.out HB.out)|(with_reducible refine Kd.C_alloc ?_ _)|(with_reducible refine Kd.C_drewN ?_ _)|(with_reducible refine Kd.C_drew ?_)));(case side8=>exact HC0_3.out);(case side9=>repeat (first|exact (Kd.C_below HR0_4.out HB.out)|(with_reducible refine Kd.C_alloc ?_ _)|(with_reducible refine Kd.C_drewN ?_ _)|(with_reducible refine Kd.C_drew ?_)));(case side10=>exact HC0_4.out);(case side11=>repeat (first|exact (Kd.C_below HR0_5.out HB.out)|(with_reducible refine Kd.C_alloc ?_ _)|(with_reducible refine Kd.C_drewN ?_ _)|(with_reducible refine Kd.C_drew ?_)));(case side12=>exact HC0_5.out);rintro e w27 ⟨rfl,hb⟩;refine ⟨_,rfl,?_⟩;have n0_:=zF (Kd.R_below (by (with_reducible repeat (first|apply Kd.R_alloc|apply Kd.R_drewN|apply Kd.R_drew));exact HO186.out) hb);have n1_:=zF (blk_below (g:=gb177) (o:=.cells #[.slice A0_0 l0_0.length c0_0,.slice (some ad180) l0_1.length c0_1,.slice A0_2 l0_2.length c0_2,.slice A0_3 l0_3.length c0_3,.slice A0_4 l0_4.length c0_4,.slice A0_5 l0_5.length c0_5] 81 (0,0)) (by (with_reducible repeat (first|refine blk_drewN ?_ _|refine blk_drew ?_|refine blk_alloc ?_ _));exact BK177.out) hb);have n2_:=zF (blk_below (g:=gb178) (o:=.cells #[.bool false,.slice none 0 0] 47 (0,0)) (by (with_reducible repeat (first|refine blk_drewN ?_ _|refine blk_drew ?_|refine blk_alloc ?_ _));exact BK178.out) hb);have n3_:=zF (blk_below (g:=gb181) (o:=.cells #[.int .i64 ((rd_T41 l0_1 (rd l1 x8_1)).f0),.int .i64 ((rd_T41 l0_1 (rd l1 x8_1)).f1),.slice A180_2 ((rd_T41 l0_1 (rd l1 x8_1)).f2).length c180_2] 41 (0,0)) (by (with_reducible repeat (first|refine blk_drewN ?_ _|refine blk_drew ?_|refine blk_alloc ?_ _));exact BK181.out) hb);have n4_:=zF (below_step (by repeat (first|(with_reducible first|exact HB.out|apply below_alloc|apply pw_below_drewN|apply below_drew1|refine below_set ?_ GE177.out|refine below_set ?_ GE178.out|refine below_set ?_ GE181.out)|exact HB.out)) hb);clear HO186;clear BK177;clear BK178;clear BK181;clear HB;have HO186:=n0_;have BK177:=n1_;have BK178:=n2_;have BK181:=n3_;have HB:=n4_;clear n0_ n1_ n2_ n3_ n4_;(try clear hb);(try clear hb2);(try clear hk);(try clear hi)))
         go_roundg k1
         case measure=>have:=HK1.out;omega
         case rel=>exact ⟨(y184),(x8_1),(wrap64 (x8_1 + 1)),(by first|rfl|(simp;done)|(simp [*];done)),(by first|rfl|(simp;done)|(simp [*];done)),H',⟨by have:=HK1.out;omega⟩,⟨by (with_reducible repeat (first|apply Kd.R_alloc|apply Kd.R_drewN|apply Kd.R_drew));exact HO186.out⟩,⟨by (with_reducible repeat (first|refine blk_drewN ?_ _|refine blk_drew ?_|refine blk_alloc ?_ _));exact BK177.out⟩,⟨by (with_reducible repeat (first|refine blk_drewN ?_ _|refine blk_drew ?_|refine blk_alloc ?_ _));exact BK178.out⟩,⟨by repeat (first|(with_reducible first|exact HB.out|apply below_alloc|apply pw_below_drewN|apply below_drew1|refine below_set ?_ GE177.out|refine below_set ?_ GE178.out|refine below_set ?_ GE181.out)|exact HB.out)⟩⟩
        ·
         rw [if_neg c12] at H
         have c12b0:decide (t187 < 0)=false:=decide_eq_false c12
         clear c12
         have H':=zF H
         clear H
         try go_wp2
         have n0_:=zF (Kd.R_drew HO_6.out)
         have n1_:=zF (blk_drew BK177.out)
         have n2_:=zF (blk_drew BK178.out)
         have n3_:=zF (below_drew1 HB.out)
         clear HO_6 BK177 BK178 HB
         have HO_6:=n0_
         have BK177:=n1_
         have BK178:=n2_
         have HB:=n3_
         clear n0_ n1_ n2_ n3_
         have p179:0≤(x8_1:Int):=zE (by first|(with_reducible assumption)|assumption)
         have q179:x8_1 < (l1.length:Int):=zE (by first|(with_reducible assumption)|assumption)
         obtain ⟨ad179,e179,hx179_0⟩:=Kd.at_int HR1.out x8_1 p179 q179
         have hw179_0:=hx179_0
         cases e179
         replace hx179_0:=(HB.out.cell (World.block_lt_of_cell? w _ hx179_0)).trans hx179_0
         replace p179:=eq_true p179
         replace q179:=eq_true q179
         have p180:0≤((rd l1 x8_1):Int):=zE (by first|(with_reducible assumption)|assumption)
         have q180:(rd l1 x8_1) < (l0_1.length:Int):=zE (by first|(with_reducible assumption)|assumption)
         obtain ⟨ad180,A180_2,c180_2,e180,hx180_0,hx180_1,hx180_2,hl180_2,hi180_2⟩:=at_T41 HR0_1.out (rd l1 x8_1) p180 q180
         have hw180_2:=hx180_2
         have hw180_1:=hx180_1
         have hw180_0:=hx180_0
         cases e180
         replace hx180_0:=(HB.out.cell (World.block_lt_of_cell? w _ hx180_0)).trans hx180_0
         replace hx180_1:=(HB.out.cell (World.block_lt_of_cell? w _ hx180_1)).trans hx180_1
         replace hx180_2:=(HB.out.cell (World.block_lt_of_cell? w _ hx180_2)).trans hx180_2
         have HR180_2:=zF hi180_2
         have HC180_2:=zF hl180_2
         clear hi180_2 hl180_2
         replace p180:=eq_true p180
         replace q180:=eq_true q180
         refine start_ (n:=11) (S:=fun w'=>w'.cell? ⟨gb177,0,none⟩=some (.slice A0_0 l0_0.length c0_0)∧w'.cell? ⟨gb177,1,none⟩=some (.slice (some ad180) l0_1.length c0_1)∧w'.cell? ⟨gb177,2,none⟩=some (.slice A0_2 l0_2.length c0_2)∧w'.cell? ⟨gb177,3,none⟩=some (.slice A0_3 l0_3.length c0_3)∧w'.cell? ⟨gb177,4,none⟩=some (.slice A0_4 l0_4.length c0_4)∧w'.cell? ⟨gb177,5,none⟩=some (.slice A0_5 l0_5.length c0_5)∧w'.cell? (ad179.add (x8_1).toNat)=some (.int .i64 (rd l1 x8_1))∧w'.cell? (ad180.add (((rd l1 x8_1)).toNat * 3))=some (.int .i64 ((rd_T41 l0_1 (rd l1 x8_1)).f0))∧w'.cell? ⟨(ad180.add (((rd l1 x8_1)).toNat * 3)).block,(ad180.add (((rd l1 x8_1)).toNat * 3)).off + 1,none⟩=some (.int .i64 ((rd_T41 l0_1 (rd l1 x8_1)).f1))∧w'.cell? ⟨(ad180.add (((rd l1 x8_1)).toNat * 3)).block,(ad180.add (((rd l1 x8_1)).toNat * 3)).off + 2,none⟩=some (.slice A180_2 ((rd_T41 l0_1 (rd l1 x8_1)).f2).length c180_2)) (ds:=[]) #[false,false,false,false,false,false,false,false,false,false,false] (by kernel_rfl) rfl rfl ⟨(blk_cell BK177.out 0).trans rfl,(blk_cell BK177.out 1).trans rfl,(blk_cell BK177.out 2).trans rfl,(blk_cell BK177.out 3).trans rfl,(blk_cell BK177.out 4).trans rfl,(blk_cell BK177.out 5).trans rfl,((HB.out.cell (World.block_lt_of_cell? w _ hw179_0)).trans hw179_0),((HB.out.cell (World.block_lt_of_cell? w _ hw180_0)).trans hw180_0),((HB.out.cell (World.block_lt_of_cell? w _ hw180_1)).trans hw180_1),((HB.out.cell (World.block_lt_of_cell? w _ hw180_2)).trans hw180_2)⟩ (fun hHeld=>?_);refine with_tabW cohousingref24_ring.tab6 cohousingref24_ring.bits6 (fun HT_ HW_=>?_)
         generalize wr.drew=w28 at HO_6 BK177 BK178 HB HR180_2 hx179_0 hx180_0 hx180_1 hx180_2 hHeld ⊢
         refine pure_ (i:=0) (N:=some 19) (v:=?_) (a':=?_) #[true,false,false,false,false,false,false,false,false,false,false] rfl rfl (any_of HT_.out (by kernel_rfl)) (fun _ _ _ h=>h) (Or.inl ⟨by rfl,?_⟩) ?_ ?_
         rotate_left
         ·
          intro w'
          go_simp
          with_reducible rfl
         rotate_left
         ·
          simp only [Act.put,zA,zB,zC,i64_w,i32_w]
          rfl
         refine pure_ (i:=1) (N:=some 20) (v:=?_) (a':=?_) #[true,true,false,false,false,false,false,false,false,false,false] rfl rfl (any_of HT_.out (by kernel_rfl)) (fun _ _ _ h=>h) (Or.inl ⟨by rfl,?_⟩) ?_ ?_
         rotate_left
         ·
          intro w'
          go_simp
          with_reducible rfl
         rotate_left
         ·
          simp only [Act.put,zA,zB,zC,i64_w,i32_w]
          rfl
         refine pure_ (i:=3) (N:=some 22) (v:=?_) (a':=?_) #[true,true,false,true,false,false,false,false,false,false,false] rfl rfl (any_of HT_.out (by kernel_rfl)) (fun _ _ _ h=>h) (Or.inl ⟨by rfl,?_⟩) ?_ ?_
         rotate_left
         ·
          intro w'
          go_simp
          with_reducible rfl
         rotate_left
         ·
          simp only [Act.put,zA,zB,zC,i64_w,i32_w]
          rfl
         refine pure_ (i:=4) (N:=some 23) (v:=?_) (a':=?_) #[true,true,false,true,true,false,false,false,false,false,false] rfl rfl (any_of HT_.out (by kernel_rfl)) (fun _ _ _ h=>h) (Or.inl ⟨by rfl,?_⟩) ?_ ?_
         rotate_left
         ·
          intro w'
          go_simp
          with_reducible rfl
         rotate_left
         ·
          simp only [Act.put,zA,zB,zC,i64_w,i32_w]
          rfl
         refine pure_ (i:=5) (N:=some 24) (v:=?_) (a':=?_) #[true,true,false,true,true,true,false,false,false,false,false] rfl rfl (any_of HT_.out (by kernel_rfl)) (fun _ _ _ h=>h) (Or.inl ⟨by rfl,?_⟩) ?_ ?_
         rotate_left
         ·
          intro w'
          go_simp
          with_reducible rfl
         rotate_left
         ·
          simp only [Act.put,zA,zB,zC,i64_w,i32_w]
          rfl
         refine take_ (i:=2) (N:=some 21) (v:=?_) (a':=?_) #[true,true,true,true,true,true,false,false,false,false,false] rfl rfl (take_ofW HT_.out HW_.out (by kernel_rfl)) (fun _ _ _ h=>h) (Or.inl ⟨by rfl,?_⟩) hHeld ?_ ?_
         rotate_left
         ·
          rintro w' ⟨s0,s1,s2,s3,s4,s5,s6,s7,s8,s9⟩
          go_simp
          with_reducible rfl
         rotate_left
         ·
          simp only [Act.put,zA,zB,zC,i64_w,i32_w]
          rfl
         refine take_ (i:=6) (N:=some 25) (v:=?_) (a':=?_) #[true,true,true,true,true,true,true,false,false,false,false] rfl rfl (take_ofW HT_.out HW_.out (by kernel_rfl)) (fun _ _ _ h=>h) (Or.inl ⟨by rfl,?_⟩) hHeld ?_ ?_
         rotate_left
         ·
          rintro w' ⟨s0,s1,s2,s3,s4,s5,s6,s7,s8,s9⟩
          go_simp
          with_reducible rfl
         rotate_left
         ·
          simp only [Act.put,zA,zB,zC,i64_w,i32_w]
          rfl
         refine pure_ (i:=7) (N:=some 26) (v:=?_) (a':=?_) #[true,true,true,true,true,true,true,true,false,false,false] rfl rfl (any_of HT_.out (by kernel_rfl)) (fun _ _ _ h=>h) (Or.inl ⟨by rfl,?_⟩) ?_ ?_
         rotate_left
         ·
          intro w'
          go_simp
          with_reducible rfl
         rotate_left
         ·
          simp only [Act.put,zA,zB,zC,i64_w,i32_w]
          rfl
         refine take_ (i:=8) (N:=some 27) (v:=?_) (a':=?_) #[true,true,true,true,true,true,true,true,true,false,false] rfl rfl (take_ofW HT_.out HW_.out (by kernel_rfl)) (fun _ _ _ h=>h) (Or.inl ⟨by rfl,?_⟩) hHeld ?_ ?_
         rotate_left
         ·
          rintro w' ⟨s0,s1,s2,s3,s4,s5,s6,s7,s8,s9⟩
          go_simp
          with_reducible rfl
         rotate_left
         ·
          simp only [Act.put,zA,zB,zC,i64_w,i32_w]
          rfl
         refine one_ (i:=9) (N:=some 9) #[true,true,true,true,true,true,true,true,true,true,false] rfl rfl (one_of HT_.out (by kernel_rfl)) (by decide) (fun K hK=>?_)
         refine box_step ?hg (N:=9) ?hd (cs:=#[.int .i64 0,.int .i64 0,.slice none 0 0]) (t:=41) ?hr ?_;(case hd=>rfl);(case hg=>rfl);(case hr=>first|(go_simp;done)|(go_simp;rfl))
         intro gb181 hg w29 hbox hb
         have n0_:=zF (Kd.R_below (by (with_reducible repeat (first|apply Kd.R_alloc|apply Kd.R_drewN|apply Kd.R_drew));exact HO_6.out) hb)
         have n1_:=zF (blk_below (g:=gb177) (o:=.cells #[.slice A0_0 l0_0.length c0_0,.slice (some ad180) l0_1.length c0_1,.slice A0_2 l0_2.length c0_2,.slice A0_3 l0_3.length c0_3,.slice A0_4 l0_4.length c0_4,.slice A0_5 l0_5.length c0_5] 81 (0,0)) (by (with_reducible repeat (first|refine blk_drewN ?_ _|refine blk_drew ?_|refine blk_alloc ?_ _));exact BK177.out) hb)
         have n2_:=zF (blk_below (g:=gb178) (o:=.cells #[.bool false,.slice none 0 0] 47 (0,0)) (by (with_reducible repeat (first|refine blk_drewN ?_ _|refine blk_drew ?_|refine blk_alloc ?_ _));exact BK178.out) hb)
         have n3_:=zF (below_step (by repeat (first|(with_reducible first|exact HB.out|apply below_alloc|apply pw_below_drewN|apply below_drew1|refine below_set ?_ GE177.out|refine below_set ?_ GE178.out)|exact HB.out)) hb)
         have n4_:=zF (hbox)
         have n5_:=zF ((by rw [hg];exact (below_size (by repeat (first|(with_reducible first|exact HB.out|apply below_alloc|apply pw_below_drewN|apply below_drew1|refine below_set ?_ GE177.out|refine below_set ?_ GE178.out)|exact HB.out))):w.heap.size≤gb181))
         have n6_:=zF ((by rw [hg];exact (below_size (by repeat (first|(with_reducible first|exact HB.out|apply below_alloc|apply pw_below_drewN|apply below_drew1|refine below_set ?_ GE177.out|refine below_set ?_ GE178.out)|exact HB.out))):w.heap.size≤gb181))
         have n7_:=zF ((by rw [hg];exact Nat.ne_of_lt (blk_lt (g:=gb177) (o:=.cells #[.slice A0_0 l0_0.length c0_0,.slice (some ad180) l0_1.length c0_1,.slice A0_2 l0_2.length c0_2,.slice A0_3 l0_3.length c0_3,.slice A0_4 l0_4.length c0_4,.slice A0_5 l0_5.length c0_5] 81 (0,0)) (by (with_reducible repeat (first|refine blk_drewN ?_ _|refine blk_drew ?_|refine blk_alloc ?_ _));exact BK177.out)):gb177≠gb181))
         have n8_:=zF ((by rw [hg];exact Nat.ne_of_gt (blk_lt (g:=gb177) (o:=.cells #[.slice A0_0 l0_0.length c0_0,.slice (some ad180) l0_1.length c0_1,.slice A0_2 l0_2.length c0_2,.slice A0_3 l0_3.length c0_3,.slice A0_4 l0_4.length c0_4,.slice A0_5 l0_5.length c0_5] 81 (0,0)) (by (with_reducible repeat (first|refine blk_drewN ?_ _|refine blk_drew ?_|refine blk_alloc ?_ _));exact BK177.out)):gb181≠gb177))
         have n9_:=zF ((by rw [hg];exact Nat.ne_of_lt (blk_lt (g:=gb178) (o:=.cells #[.bool false,.slice none 0 0] 47 (0,0)) (by (with_reducible repeat (first|refine blk_drewN ?_ _|refine blk_drew ?_|refine blk_alloc ?_ _));exact BK178.out)):gb178≠gb181))
         have n10_:=zF ((by rw [hg];exact Nat.ne_of_gt (blk_lt (g:=gb178) (o:=.cells #[.bool false,.slice none 0 0] 47 (0,0)) (by (with_reducible repeat (first|refine blk_drewN ?_ _|refine blk_drew ?_|refine blk_alloc ?_ _));exact BK178.out)):gb181≠gb178))
         clear HO_6 BK177 BK178 HB
         have HO_6:=n0_
         have BK177:=n1_
         have BK178:=n2_
         have HB:=n3_
         have BK181:=n4_
         have GW181:=n5_
         have GE181:=n6_
         have NB177_181:=n7_
         have NB181_177:=n8_
         have NB178_181:=n9_
         have NB181_178:=n10_
         clear n0_ n1_ n2_ n3_ n4_ n5_ n6_ n7_ n8_ n9_ n10_ hb hbox hg
         refine hK.out _ _ ⟨(blk_cell BK177.out 0).trans rfl,(blk_cell BK177.out 1).trans rfl,(blk_cell BK177.out 2).trans rfl,(blk_cell BK177.out 3).trans rfl,(blk_cell BK177.out 4).trans rfl,(blk_cell BK177.out 5).trans rfl,((HB.out.cell (World.block_lt_of_cell? w _ hw179_0)).trans hw179_0),((HB.out.cell (World.block_lt_of_cell? w _ hw180_0)).trans hw180_0),((HB.out.cell (World.block_lt_of_cell? w _ hw180_1)).trans hw180_1),((HB.out.cell (World.block_lt_of_cell? w _ hw180_2)).trans hw180_2)⟩ (fun hHeld=>?_)
         clear hK K
         refine norm_ (a':=?_) ?_ ?_
         rotate_left
         ·
          show Act.put _ (some 9) _=_
          simp only [Act.put,zA,zB,zC,i64_w,i32_w]
          rfl
         refine one_ (i:=10) (N:=none) #[true,true,true,true,true,true,true,true,true,true,true] rfl rfl (one_of HT_.out (by kernel_rfl)) (by decide) (fun K hK=>?_)
         have hs30:w29.cell? ⟨gb181,0,none⟩=some (.int .i64 0):=(blk_cell BK181.out 0).trans rfl
         have hfs30:=blk_frozen BK181.out 0
         have hns30_0:=NB177_181.out
         have hns30_1:=NB178_181.out
         have hms30_0:=NB181_177.out
         have hms30_1:=NB181_178.out
         have hs31:w29.cell? ⟨gb181,1,none⟩=some (.int .i64 0):=(blk_cell BK181.out 1).trans rfl
         have hfs31:=blk_frozen BK181.out 1
         have hns31_0:=NB177_181.out
         have hns31_1:=NB178_181.out
         have hms31_0:=NB181_177.out
         have hms31_1:=NB181_178.out
         have hs32:w29.cell? ⟨gb181,2,none⟩=some (.slice none 0 0):=(blk_cell BK181.out 2).trans rfl
         have hfs32:=blk_frozen BK181.out 2
         have hns32_0:=NB177_181.out
         have hns32_1:=NB178_181.out
         have hms32_0:=NB181_177.out
         have hms32_1:=NB181_178.out
         refine skip_ (w1:=?_) (by rfl) rfl ?_ ?_
         rotate_left
         ·
          go_simp
          rfl
         refine hK.out _ _ ⟨((cell_far (p:=⟨gb181,_,none⟩) NB177_181.out _).trans (((cell_far (p:=⟨gb181,_,none⟩) NB177_181.out _).trans (((cell_far (p:=⟨gb181,_,none⟩) NB177_181.out _).trans (hHeld.1)))))),((cell_far (p:=⟨gb181,_,none⟩) NB177_181.out _).trans (((cell_far (p:=⟨gb181,_,none⟩) NB177_181.out _).trans (((cell_far (p:=⟨gb181,_,none⟩) NB177_181.out _).trans (hHeld.2.1)))))),((cell_far (p:=⟨gb181,_,none⟩) NB177_181.out _).trans (((cell_far (p:=⟨gb181,_,none⟩) NB177_181.out _).trans (((cell_far (p:=⟨gb181,_,none⟩) NB177_181.out _).trans (hHeld.2.2.1)))))),((cell_far (p:=⟨gb181,_,none⟩) NB177_181.out _).trans (((cell_far (p:=⟨gb181,_,none⟩) NB177_181.out _).trans (((cell_far (p:=⟨gb181,_,none⟩) NB177_181.out _).trans (hHeld.2.2.2.1)))))),((cell_far (p:=⟨gb181,_,none⟩) NB177_181.out _).trans (((cell_far (p:=⟨gb181,_,none⟩) NB177_181.out _).trans (((cell_far (p:=⟨gb181,_,none⟩) NB177_181.out _).trans (hHeld.2.2.2.2.1)))))),((cell_far (p:=⟨gb181,_,none⟩) NB177_181.out _).trans (((cell_far (p:=⟨gb181,_,none⟩) NB177_181.out _).trans (((cell_far (p:=⟨gb181,_,none⟩) NB177_181.out _).trans (hHeld.2.2.2.2.2.1)))))),((cell_far (p:=⟨gb181,_,none⟩) (by first|exact Nat.ne_of_lt (Nat.lt_of_lt_of_le (by have:=World.block_lt_of_cell? _ _ hw179_0;first|rwa [add_block] at this|exact this) GW181.out)|(rw [add_block];exact Nat.ne_of_lt (Nat.lt_of_lt_of_le (by have:=World.block_lt_of_cell? _ _ hw179_0;first|rwa [add_block] at this|exact this) GW181.out))|(show (Addr.add _ _).block≠_;rw [add_block];exact Nat.ne_of_lt (Nat.lt_of_lt_of_le (by have:=World.block_lt_of_cell? _ _ hw179_0;first|rwa [add_block] at this|exact this) GW181.out))|(dsimp only;exact Nat.ne_of_lt (Nat.lt_of_lt_of_le (by have:=World.block_lt_of_cell? _ _ hw179_0;first|rwa [add_block] at this|exact this) GW181.out))) _).trans (((cell_far (p:=⟨gb181,_,none⟩) (by first|exact Nat.ne_of_lt (Nat.lt_of_lt_of_le (by have:=World.block_lt_of_cell? _ _ hw179_0;first|rwa [add_block] at this|exact this) GW181.out)|(rw [add_block];exact Nat.ne_of_lt (Nat.lt_of_lt_of_le (by have:=World.block_lt_of_cell? _ _ hw179_0;first|rwa [add_block] at this|exact this) GW181.out))|(show (Addr.add _ _).block≠_;rw [add_block];exact Nat.ne_of_lt (Nat.lt_of_lt_of_le (by have:=World.block_lt_of_cell? _ _ hw179_0;first|rwa [add_block] at this|exact this) GW181.out))|(dsimp only;exact Nat.ne_of_lt (Nat.lt_of_lt_of_le (by have:=World.block_lt_of_cell? _ _ hw179_0;first|rwa [add_block] at this|exact this) GW181.out))) _).trans (((cell_far (p:=⟨gb181,_,none⟩) (by first|exact Nat.ne_of_lt (Nat.lt_of_lt_of_le (by have:=World.block_lt_of_cell? _ _ hw179_0;first|rwa [add_block] at this|exact this) GW181.out)|(rw [add_block];exact Nat.ne_of_lt (Nat.lt_of_lt_of_le (by have:=World.block_lt_of_cell? _ _ hw179_0;first|rwa [add_block] at this|exact this) GW181.out))|(show (Addr.add _ _).block≠_;rw [add_block];exact Nat.ne_of_lt (Nat.lt_of_lt_of_le (by have:=World.block_lt_of_cell? _ _ hw179_0;first|rwa [add_block] at this|exact this) GW181.out))|(dsimp only;exact Nat.ne_of_lt (Nat.lt_of_lt_of_le (by have:=World.block_lt_of_cell? _ _ hw179_0;first|rwa [add_block] at this|exact this) GW181.out))) _).trans (hHeld.2.2.2.2.2.2.1)))))),((cell_far (p:=⟨gb181,_,none⟩) (by first|exact Nat.ne_of_lt (Nat.lt_of_lt_of_le (by have:=World.block_lt_of_cell? _ _ hw180_0;first|rwa [add_block] at this|exact this) GW181.out)|(rw [add_block];exact Nat.ne_of_lt (Nat.lt_of_lt_of_le (by have:=World.block_lt_of_cell? _ _ hw180_0;first|rwa [add_block] at this|exact this) GW181.out))|(show (Addr.add _ _).block≠_;rw [add_block];exact Nat.ne_of_lt (Nat.lt_of_lt_of_le (by have:=World.block_lt_of_cell? _ _ hw180_0;first|rwa [add_block] at this|exact this) GW181.out))|(dsimp only;exact Nat.ne_of_lt (Nat.lt_of_lt_of_le (by have:=World.block_lt_of_cell? _ _ hw180_0;first|rwa [add_block] at this|exact this) GW181.out))) _).trans (((cell_far (p:=⟨gb181,_,none⟩) (by first|exact Nat.ne_of_lt (Nat.lt_of_lt_of_le (by have:=World.block_lt_of_cell? _ _ hw180_0;first|rwa [add_block] at this|exact this) GW181.out)|(rw [add_block];exact Nat.ne_of_lt (Nat.lt_of_lt_of_le (by have:=World.block_lt_of_cell? _ _ hw180_0;first|rwa [add_block] at this|exact this) GW181.out))|(show (Addr.add _ _).block≠_;rw [add_block];exact Nat.ne_of_lt (Nat.lt_of_lt_of_le (by have:=World.block_lt_of_cell? _ _ hw180_0;first|rwa [add_block] at this|exact this) GW181.out))|(dsimp only;exact Nat.ne_of_lt (Nat.lt_of_lt_of_le (by have:=World.block_lt_of_cell? _ _ hw180_0;first|rwa [add_block] at this|exact this) GW181.out))) _).trans (((cell_far (p:=⟨gb181,_,none⟩) (by first|exact Nat.ne_of_lt (Nat.lt_of_lt_of_le (by have:=World.block_lt_of_cell? _ _ hw180_0;first|rwa [add_block] at this|exact this) GW181.out)|(rw [add_block];exact Nat.ne_of_lt (Nat.lt_of_lt_of_le (by have:=World.block_lt_of_cell? _ _ hw180_0;first|rwa [add_block] at this|exact this) GW181.out))|(show (Addr.add _ _).block≠_;rw [add_block];exact Nat.ne_of_lt (Nat.lt_of_lt_of_le (by have:=World.block_lt_of_cell? _ _ hw180_0;first|rwa [add_block] at this|exact this) GW181.out))|(dsimp only;exact Nat.ne_of_lt (Nat.lt_of_lt_of_le (by have:=World.block_lt_of_cell? _ _ hw180_0;first|rwa [add_block] at this|exact this) GW181.out))) _).trans (hHeld.2.2.2.2.2.2.2.1)))))),((cell_far (p:=⟨gb181,_,none⟩) (by first|exact Nat.ne_of_lt (Nat.lt_of_lt_of_le (by have:=World.block_lt_of_cell? _ _ hw180_1;first|rwa [add_block] at this|exact this) GW181.out)|(rw [add_block];exact Nat.ne_of_lt (Nat.lt_of_lt_of_le (by have:=World.block_lt_of_cell? _ _ hw180_1;first|rwa [add_block] at this|exact this) GW181.out))|(show (Addr.add _ _).block≠_;rw [add_block];exact Nat.ne_of_lt (Nat.lt_of_lt_of_le (by have:=World.block_lt_of_cell? _ _ hw180_1;first|rwa [add_block] at this|exact this) GW181.out))|(dsimp only;exact Nat.ne_of_lt (Nat.lt_of_lt_of_le (by have:=World.block_lt_of_cell? _ _ hw180_1;first|rwa [add_block] at this|exact this) GW181.out))) _).trans (((cell_far (p:=⟨gb181,_,none⟩) (by first|exact Nat.ne_of_lt (Nat.lt_of_lt_of_le (by have:=World.block_lt_of_cell? _ _ hw180_1;first|rwa [add_block] at this|exact this) GW181.out)|(rw [add_block];exact Nat.ne_of_lt (Nat.lt_of_lt_of_le (by have:=World.block_lt_of_cell? _ _ hw180_1;first|rwa [add_block] at this|exact this) GW181.out))|(show (Addr.add _ _).block≠_;rw [add_block];exact Nat.ne_of_lt (Nat.lt_of_lt_of_le (by have:=World.block_lt_of_cell? _ _ hw180_1;first|rwa [add_block] at this|exact this) GW181.out))|(dsimp only;exact Nat.ne_of_lt (Nat.lt_of_lt_of_le (by have:=World.block_lt_of_cell? _ _ hw180_1;first|rwa [add_block] at this|exact this) GW181.out))) _).trans (((cell_far (p:=⟨gb181,_,none⟩) (by first|exact Nat.ne_of_lt (Nat.lt_of_lt_of_le (by have:=World.block_lt_of_cell? _ _ hw180_1;first|rwa [add_block] at this|exact this) GW181.out)|(rw [add_block];exact Nat.ne_of_lt (Nat.lt_of_lt_of_le (by have:=World.block_lt_of_cell? _ _ hw180_1;first|rwa [add_block] at this|exact this) GW181.out))|(show (Addr.add _ _).block≠_;rw [add_block];exact Nat.ne_of_lt (Nat.lt_of_lt_of_le (by have:=World.block_lt_of_cell? _ _ hw180_1;first|rwa [add_block] at this|exact this) GW181.out))|(dsimp only;exact Nat.ne_of_lt (Nat.lt_of_lt_of_le (by have:=World.block_lt_of_cell? _ _ hw180_1;first|rwa [add_block] at this|exact this) GW181.out))) _).trans (hHeld.2.2.2.2.2.2.2.2.1)))))),((cell_far (p:=⟨gb181,_,none⟩) (by first|exact Nat.ne_of_lt (Nat.lt_of_lt_of_le (by have:=World.block_lt_of_cell? _ _ hw180_2;first|rwa [add_block] at this|exact this) GW181.out)|(rw [add_block];exact Nat.ne_of_lt (Nat.lt_of_lt_of_le (by have:=World.block_lt_of_cell? _ _ hw180_2;first|rwa [add_block] at this|exact this) GW181.out))|(show (Addr.add _ _).block≠_;rw [add_block];exact Nat.ne_of_lt (Nat.lt_of_lt_of_le (by have:=World.block_lt_of_cell? _ _ hw180_2;first|rwa [add_block] at this|exact this) GW181.out))|(dsimp only;exact Nat.ne_of_lt (Nat.lt_of_lt_of_le (by have:=World.block_lt_of_cell? _ _ hw180_2;first|rwa [add_block] at this|exact this) GW181.out))) _).trans (((cell_far (p:=⟨gb181,_,none⟩) (by first|exact Nat.ne_of_lt (Nat.lt_of_lt_of_le (by have:=World.block_lt_of_cell? _ _ hw180_2;first|rwa [add_block] at this|exact this) GW181.out)|(rw [add_block];exact Nat.ne_of_lt (Nat.lt_of_lt_of_le (by have:=World.block_lt_of_cell? _ _ hw180_2;first|rwa [add_block] at this|exact this) GW181.out))|(show (Addr.add _ _).block≠_;rw [add_block];exact Nat.ne_of_lt (Nat.lt_of_lt_of_le (by have:=World.block_lt_of_cell? _ _ hw180_2;first|rwa [add_block] at this|exact this) GW181.out))|(dsimp only;exact Nat.ne_of_lt (Nat.lt_of_lt_of_le (by have:=World.block_lt_of_cell? _ _ hw180_2;first|rwa [add_block] at this|exact this) GW181.out))) _).trans (((cell_far (p:=⟨gb181,_,none⟩) (by first|exact Nat.ne_of_lt (Nat.lt_of_lt_of_le (by have:=World.block_lt_of_cell? _ _ hw180_2;first|rwa [add_block] at this|exact this) GW181.out)|(rw [add_block];exact Nat.ne_of_lt (Nat.lt_of_lt_of_le (by have:=World.block_lt_of_cell? _ _ hw180_2;first|rwa [add_block] at this|exact this) GW181.out))|(show (Addr.add _ _).block≠_;rw [add_block];exact Nat.ne_of_lt (Nat.lt_of_lt_of_le (by have:=World.block_lt_of_cell? _ _ hw180_2;first|rwa [add_block] at this|exact this) GW181.out))|(dsimp only;exact Nat.ne_of_lt (Nat.lt_of_lt_of_le (by have:=World.block_lt_of_cell? _ _ hw180_2;first|rwa [add_block] at this|exact this) GW181.out))) _).trans (hHeld.2.2.2.2.2.2.2.2.2))))))⟩ (fun hHeld=>?_)
         clear hK K
         refine done_ (done_of HT_.out (by kernel_rfl)) ?_
         try go_wp2
         have n0_:Aside0 (Kd.R k39 39 (((w29.setCell ⟨gb181,0,none⟩ (.int .i64 ((rd_T41 l0_1 (rd l1 x8_1)).f0))).setCell ⟨gb181,1,none⟩ (.int .i64 ((rd_T41 l0_1 (rd l1 x8_1)).f1))).setCell ⟨gb181,2,none⟩ (.slice A180_2 ((rd_T41 l0_1 (rd l1 x8_1)).f2).length c180_2)) w.heap.size (fun _=>True) u6 x6_1):=⟨by (with_reducible repeat (first|apply Kd.R_alloc|apply Kd.R_drewN|apply Kd.R_drew));exact Kd.R_mono (Kd.R_far (p:=⟨gb181,2,none⟩) (Kd.R_far (p:=⟨gb181,1,none⟩) (Kd.R_far (p:=⟨gb181,0,none⟩) (Kd.R_types HO_6.out BK181.out (by decide)) (fun _ hk=>hk.2) (.int .i64 ((rd_T41 l0_1 (rd l1 x8_1)).f0))) (fun _ hk=>hk.2) (.int .i64 ((rd_T41 l0_1 (rd l1 x8_1)).f1))) (fun _ hk=>hk.2) (.slice A180_2 ((rd_T41 l0_1 (rd l1 x8_1)).f2).length c180_2)) (fun _ hk=>trivial)⟩
         have n1_:Aside0 ((((w29.setCell ⟨gb181,0,none⟩ (.int .i64 ((rd_T41 l0_1 (rd l1 x8_1)).f0))).setCell ⟨gb181,1,none⟩ (.int .i64 ((rd_T41 l0_1 (rd l1 x8_1)).f1))).setCell ⟨gb181,2,none⟩ (.slice A180_2 ((rd_T41 l0_1 (rd l1 x8_1)).f2).length c180_2)).heap[gb177]? = some (.cells #[.slice A0_0 l0_0.length c0_0,.slice (some ad180) l0_1.length c0_1,.slice A0_2 l0_2.length c0_2,.slice A0_3 l0_3.length c0_3,.slice A0_4 l0_4.length c0_4,.slice A0_5 l0_5.length c0_5] 81 (0,0))):=⟨by (with_reducible repeat (first|refine blk_drewN ?_ _|refine blk_drew ?_|refine blk_alloc ?_ _));refine blk_far ?_ NB177_181.out _;(with_reducible repeat (first|refine blk_drewN ?_ _|refine blk_drew ?_|refine blk_alloc ?_ _));refine blk_far ?_ NB177_181.out _;(with_reducible repeat (first|refine blk_drewN ?_ _|refine blk_drew ?_|refine blk_alloc ?_ _));refine blk_far ?_ NB177_181.out _;(with_reducible repeat (first|refine blk_drewN ?_ _|refine blk_drew ?_|refine blk_alloc ?_ _));exact BK177.out⟩
         have n2_:Aside0 ((((w29.setCell ⟨gb181,0,none⟩ (.int .i64 ((rd_T41 l0_1 (rd l1 x8_1)).f0))).setCell ⟨gb181,1,none⟩ (.int .i64 ((rd_T41 l0_1 (rd l1 x8_1)).f1))).setCell ⟨gb181,2,none⟩ (.slice A180_2 ((rd_T41 l0_1 (rd l1 x8_1)).f2).length c180_2)).heap[gb178]? = some (.cells #[.bool false,.slice none 0 0] 47 (0,0))):=⟨by (with_reducible repeat (first|refine blk_drewN ?_ _|refine blk_drew ?_|refine blk_alloc ?_ _));refine blk_far ?_ NB178_181.out _;(with_reducible repeat (first|refine blk_drewN ?_ _|refine blk_drew ?_|refine blk_alloc ?_ _));refine blk_far ?_ NB178_181.out _;(with_reducible repeat (first|refine blk_drewN ?_ _|refine blk_drew ?_|refine blk_alloc ?_ _));refine blk_far ?_ NB178_181.out _;(with_reducible repeat (first|refine blk_drewN ?_ _|refine blk_drew ?_|refine blk_alloc ?_ _));exact BK178.out⟩
         have n3_:Aside0 ((((w29.setCell ⟨gb181,0,none⟩ (.int .i64 ((rd_T41 l0_1 (rd l1 x8_1)).f0))).setCell ⟨gb181,1,none⟩ (.int .i64 ((rd_T41 l0_1 (rd l1 x8_1)).f1))).setCell ⟨gb181,2,none⟩ (.slice A180_2 ((rd_T41 l0_1 (rd l1 x8_1)).f2).length c180_2)).heap[gb181]? = some (.cells #[.int .i64 ((rd_T41 l0_1 (rd l1 x8_1)).f0),.int .i64 ((rd_T41 l0_1 (rd l1 x8_1)).f1),.slice A180_2 ((rd_T41 l0_1 (rd l1 x8_1)).f2).length c180_2] 41 (0,0))):=⟨by (with_reducible repeat (first|refine blk_drewN ?_ _|refine blk_drew ?_|refine blk_alloc ?_ _));refine blk_put (cs:=#[.int .i64 ((rd_T41 l0_1 (rd l1 x8_1)).f0),.int .i64 ((rd_T41 l0_1 (rd l1 x8_1)).f1),.slice none 0 0]) ?_ 2 _ rfl;(with_reducible repeat (first|refine blk_drewN ?_ _|refine blk_drew ?_|refine blk_alloc ?_ _));refine blk_put (cs:=#[.int .i64 ((rd_T41 l0_1 (rd l1 x8_1)).f0),.int .i64 0,.slice none 0 0]) ?_ 1 _ rfl;(with_reducible repeat (first|refine blk_drewN ?_ _|refine blk_drew ?_|refine blk_alloc ?_ _));refine blk_put (cs:=#[.int .i64 0,.int .i64 0,.slice none 0 0]) ?_ 0 _ rfl;(with_reducible repeat (first|refine blk_drewN ?_ _|refine blk_drew ?_|refine blk_alloc ?_ _));exact BK181.out⟩
         have n4_:Aside0 (Below w.heap.size w (((w29.setCell ⟨gb181,0,none⟩ (.int .i64 ((rd_T41 l0_1 (rd l1 x8_1)).f0))).setCell ⟨gb181,1,none⟩ (.int .i64 ((rd_T41 l0_1 (rd l1 x8_1)).f1))).setCell ⟨gb181,2,none⟩ (.slice A180_2 ((rd_T41 l0_1 (rd l1 x8_1)).f2).length c180_2))):=⟨by repeat (first|(with_reducible first|exact HB.out|apply below_alloc|apply pw_below_drewN|apply below_drew1|refine below_set ?_ GE177.out|refine below_set ?_ GE178.out|refine below_set ?_ GE181.out)|exact HB.out)⟩
         (try clear HO_6)
         (try clear BK177)
         (try clear BK178)
         (try clear BK181)
         (try clear HB)
         generalize (((w29.setCell ⟨gb181,0,none⟩ (.int .i64 ((rd_T41 l0_1 (rd l1 x8_1)).f0))).setCell ⟨gb181,1,none⟩ (.int .i64 ((rd_T41 l0_1 (rd l1 x8_1)).f1))).setCell ⟨gb181,2,none⟩ (.slice A180_2 ((rd_T41 l0_1 (rd l1 x8_1)).f2).length c180_2))=w33 at n0_ n1_ n2_ n3_ n4_ ⊢
         have HO_6:=n0_
         have BK177:=n1_
         have BK178:=n2_
         have BK181:=n3_
         have HB:=n4_
         clear n0_ n1_ n2_ n3_ n4_
         have n0_:=zF (Kd.R_drew HO_6.out)
         have n1_:=zF (blk_drew BK177.out)
         have n2_:=zF (blk_drew BK178.out)
         have n3_:=zF (blk_drew BK181.out)
         have n4_:=zF (below_drew1 HB.out)
         clear HO_6 BK177 BK178 BK181 HB
         have HO_6:=n0_
         have BK177:=n1_
         have BK178:=n2_
         have BK181:=n3_
         have HB:=n4_
         clear n0_ n1_ n2_ n3_ n4_
         have p182:0≤(x8_1:Int):=zE (by first|(with_reducible assumption)|assumption)
         have q182:x8_1 < (l1.length:Int):=zE (by first|(with_reducible assumption)|assumption)
         obtain ⟨ad182,e182,hx182_0⟩:=Kd.at_int HR1.out x8_1 p182 q182
         have hw182_0:=hx182_0
         obtain rfl:ad179=ad182:=(by injection e182)
         replace hx182_0:=(HB.out.cell (World.block_lt_of_cell? w _ hx182_0)).trans hx182_0
         replace p182:=eq_true p182
         replace q182:=eq_true q182
         refine start_ (n:=7) (S:=fun w'=>w'.cell? ⟨gb177,0,none⟩=some (.slice A0_0 l0_0.length c0_0)∧w'.cell? ⟨gb177,1,none⟩=some (.slice (some ad180) l0_1.length c0_1)∧w'.cell? ⟨gb177,2,none⟩=some (.slice A0_2 l0_2.length c0_2)∧w'.cell? ⟨gb177,3,none⟩=some (.slice A0_3 l0_3.length c0_3)∧w'.cell? ⟨gb177,4,none⟩=some (.slice A0_4 l0_4.length c0_4)∧w'.cell? ⟨gb177,5,none⟩=some (.slice A0_5 l0_5.length c0_5)∧w'.cell? (ad179.add (x8_1).toNat)=some (.int .i64 (rd l1 x8_1))) (ds:=[]) #[false,false,false,false,false,false,false] (by kernel_rfl) rfl rfl ⟨(blk_cell BK177.out 0).trans rfl,(blk_cell BK177.out 1).trans rfl,(blk_cell BK177.out 2).trans rfl,(blk_cell BK177.out 3).trans rfl,(blk_cell BK177.out 4).trans rfl,(blk_cell BK177.out 5).trans rfl,((HB.out.cell (World.block_lt_of_cell? w _ hw182_0)).trans hw182_0)⟩ (fun hHeld=>?_)
         generalize w33.drew=w34 at HO_6 BK177 BK178 BK181 HB hx182_0 hHeld ⊢
         refine pure_ (i:=1) (N:=some 29) (v:=?_) (a':=?_) #[false,true,false,false,false,false,false] rfl rfl (by kernel_rfl) (fun _ _ _ h=>h) (Or.inl ⟨by rfl,?_⟩) ?_ ?_
         rotate_left
         ·
          intro w'
          go_simp
          with_reducible rfl
         rotate_left
         ·
          simp only [Act.put,zA,zB,zC,i64_w,i32_w]
          rfl
         refine pure_ (i:=2) (N:=some 30) (v:=?_) (a':=?_) #[false,true,true,false,false,false,false] rfl rfl (by kernel_rfl) (fun _ _ _ h=>h) (Or.inl ⟨by rfl,?_⟩) ?_ ?_
         rotate_left
         ·
          intro w'
          go_simp
          with_reducible rfl
         rotate_left
         ·
          simp only [Act.put,zA,zB,zC,i64_w,i32_w]
          rfl
         refine pure_ (i:=3) (N:=some 31) (v:=?_) (a':=?_) #[false,true,true,true,false,false,false] rfl rfl (by kernel_rfl) (fun _ _ _ h=>h) (Or.inl ⟨by rfl,?_⟩) ?_ ?_
         rotate_left
         ·
          intro w'
          go_simp
          with_reducible rfl
         rotate_left
         ·
          simp only [Act.put,zA,zB,zC,i64_w,i32_w]
          rfl
         refine take_ (i:=0) (N:=some 28) (v:=?_) (a':=?_) #[true,true,true,true,false,false,false] rfl rfl (by kernel_rfl) (fun _ _ _ h=>h) (Or.inl ⟨by rfl,?_⟩) hHeld ?_ ?_
         rotate_left
         ·
          rintro w' ⟨s0,s1,s2,s3,s4,s5,s6⟩
          go_simp
          with_reducible rfl
         rotate_left
         ·
          simp only [Act.put,zA,zB,zC,i64_w,i32_w]
          rfl
         refine take_ (i:=4) (N:=some 32) (v:=?_) (a':=?_) #[true,true,true,true,true,false,false] rfl rfl (by kernel_rfl) (fun _ _ _ h=>h) (Or.inl ⟨by rfl,?_⟩) hHeld ?_ ?_
         rotate_left
         ·
          rintro w' ⟨s0,s1,s2,s3,s4,s5,s6⟩
          go_simp
          with_reducible rfl
         rotate_left
         ·
          simp only [Act.put,zA,zB,zC,i64_w,i32_w]
          rfl
         refine one_ (i:=5) (N:=some 33) #[true,true,true,true,true,true,false] rfl rfl (by kernel_rfl) (by decide) (fun K hK=>?_)
         refine goes_ Try.func52 (by kernel_rfl) rfl #[.agg #[.slice A0_0 l0_0.length c0_0,.slice (some ad180) l0_1.length c0_1,.slice A0_2 l0_2.length c0_2,.slice A0_3 l0_3.length c0_3,.slice A0_4 l0_4.length c0_4,.slice A0_5 l0_5.length c0_5],.int .i64 (rd l1 x8_1)] (by rfl) rfl rfl (by (try simp only [List.map_toArray,List.map_cons,List.map_nil]);first|done|rfl|(simp only [List.length_drop,List.length_take];rfl)) ?_
         with_reducible refine (cohousingref24_best.calls k1 _ _ l0_0 _ _ l0_1 _ _ l0_2 _ _ l0_3 _ _ l0_4 _ _ l0_5 (rd l1 x8_1) t183 _ ?side1 ?side2 ?side3 ?side4 ?side5 ?side6 ?side7 ?side8 ?side9 ?side10 ?side11 ?side12 A9.out).mono ?_
         (case side1=>repeat (first|exact (Kd.C_below HR0_0.out HB.out)|(with_reducible refine Kd.C_alloc ?_ _)|(with_reducible refine Kd.C_drewN ?_ _)|(with_reducible refine Kd.C_drew ?_)))
         (case side2=>exact HC0_0.out)
         (case side3=>repeat (first|exact (Kd.C_below HR0_1.out HB.out)|(with_reducible refine Kd.C_alloc ?_ _)|(with_reducible refine Kd.C_drewN ?_ _)|(with_reducible refine Kd.C_drew ?_)))
         (case side4=>exact HC0_1.out)
         (case side5=>repeat (first|exact (Kd.C_below HR0_2.out HB.out)|(with_reducible refine Kd.C_alloc ?_ _)|(with_reducible refine Kd.C_drewN ?_ _)|(with_reducible refine Kd.C_drew ?_)))
         (case side6=>exact HC0_2.out)
         (case side7=>repeat (first|exact (Kd.C_below HR0_3.out HB.out)|(with_reducible refine Kd.C_alloc ?_ _)|(with_reducible refine Kd.C_drewN ?_ _)|(with_reducible refine Kd.C_drew ?_)))
         (case side8=>exact HC0_3.out)
         (case side9=>repeat (first|exact (Kd.C_below HR0_4.out HB.out)|(with_reducible refine Kd.C_alloc ?_ _)|(with_reducible refine Kd.C_drewN ?_ _)|(with_reducible refine Kd.C_drew ?_)))
         (case side10=>exact HC0_4.out)
         (case side11=>repeat (first|exact (Kd.C_below HR0_5.out HB.out)|(with_reducible refine Kd.C_alloc ?_ _)|(with_reducible refine Kd.C_drewN ?_ _)|(with_reducible refine Kd.C_drew ?_)))
         (case side12=>exact HC0_5.out)
         rintro e w35 ⟨rfl,hb⟩
         refine ⟨_,rfl,?_⟩
         have n0_:=zF (Kd.R_below (by (with_reducible repeat (first|apply Kd.R_alloc|apply Kd.R_drewN|apply Kd.R_drew));exact HO_6.out) hb)
         have n1_:=zF (blk_below (g:=gb177) (o:=.cells #[.slice A0_0 l0_0.length c0_0,.slice (some ad180) l0_1.length c0_1,.slice A0_2 l0_2.length c0_2,.slice A0_3 l0_3.length c0_3,.slice A0_4 l0_4.length c0_4,.slice A0_5 l0_5.length c0_5] 81 (0,0)) (by (with_reducible repeat (first|refine blk_drewN ?_ _|refine blk_drew ?_|refine blk_alloc ?_ _));exact BK177.out) hb)
         have n2_:=zF (blk_below (g:=gb178) (o:=.cells #[.bool false,.slice none 0 0] 47 (0,0)) (by (with_reducible repeat (first|refine blk_drewN ?_ _|refine blk_drew ?_|refine blk_alloc ?_ _));exact BK178.out) hb)
         have n3_:=zF (blk_below (g:=gb181) (o:=.cells #[.int .i64 ((rd_T41 l0_1 (rd l1 x8_1)).f0),.int .i64 ((rd_T41 l0_1 (rd l1 x8_1)).f1),.slice A180_2 ((rd_T41 l0_1 (rd l1 x8_1)).f2).length c180_2] 41 (0,0)) (by (with_reducible repeat (first|refine blk_drewN ?_ _|refine blk_drew ?_|refine blk_alloc ?_ _));exact BK181.out) hb)
         have n4_:=zF (below_step (by repeat (first|(with_reducible first|exact HB.out|apply below_alloc|apply pw_below_drewN|apply below_drew1|refine below_set ?_ GE177.out|refine below_set ?_ GE178.out|refine below_set ?_ GE181.out)|exact HB.out)) hb)
         clear HO_6 BK177 BK178 BK181 HB
         have HO_6:=n0_
         have BK177:=n1_
         have BK178:=n2_
         have BK181:=n3_
         have HB:=n4_
         clear n0_ n1_ n2_ n3_ n4_
         (try clear hb)
         (try clear hb2)
         (try clear hk)
         (try clear hi)
         refine hK.out _ _ ⟨(blk_cell BK177.out 0).trans rfl,(blk_cell BK177.out 1).trans rfl,(blk_cell BK177.out 2).trans rfl,(blk_cell BK177.out 3).trans rfl,(blk_cell BK177.out 4).trans rfl,(blk_cell BK177.out 5).trans rfl,((HB.out.cell (World.block_lt_of_cell? w _ hw182_0)).trans hw182_0)⟩ (fun hHeld=>?_)
         clear hK K
         refine norm_ (a':=?_) ?_ ?_
         rotate_left
         ·
          show Act.put _ (some 33) _=_
          simp only [Act.put,zA,zB,zC,i64_w,i32_w]
          rfl
         refine pure_ (i:=6) (N:=some 10) (v:=?_) (a':=?_) #[true,true,true,true,true,true,true] rfl rfl (by kernel_rfl) (fun _ _ _ h=>h) (Or.inl ⟨by rfl,?_⟩) ?_ ?_
         rotate_left
         ·
          intro w'
          go_simp
          with_reducible rfl
         rotate_left
         ·
          simp only [Act.put,zA,zB,zC,i64_w,i32_w]
          rfl
         refine done_ (by kernel_rfl) ?_
         have hnb36:=NB181_177.out
         have hnc36:=NB177_181.out
         have hnb37:=NB181_178.out
         have hnc37:=NB178_181.out
         have hcz38_0:w35.cell? ⟨gb181,0,none⟩=some (.int .i64 ((rd_T41 l0_1 (rd l1 x8_1)).f0)):=(blk_cell BK181.out 0).trans rfl
         have hcz38_1:w35.cell? ⟨gb181,1,none⟩=some (.int .i64 ((rd_T41 l0_1 (rd l1 x8_1)).f1)):=(blk_cell BK181.out 1).trans rfl
         have hcz38_2:w35.cell? ⟨gb181,2,none⟩=some (.slice A180_2 ((rd_T41 l0_1 (rd l1 x8_1)).f2).length c180_2):=(blk_cell BK181.out 2).trans rfl
         have hfz38_0:=blk_frozen BK181.out 0
         have hfz38_1:=blk_frozen BK181.out 1
         have hfz38_2:=blk_frozen BK181.out 2
         try go_wp2_with (first|((with_reducible refine gate_builtin (b:=.append) (xs:=#[.tmp 34,.tmp 41]) rfl ?_);at_builtin;refine Kd.R_append k39 (w0:=w) w.heap.size rfl (.tmp 34) (.tmp 41) 29 39 (.agg #[(.int .i64 0),(.int .i64 0),(.int .i64 0)]) 24 rfl Try.underlying29 info39 rfl (by decide) (by omega) u6 x6_1 (⟨(rd_T41 l0_1 (rd l1 x8_1)).f0,(rd_T41 l0_1 (rd l1 x8_1)).f1,t183⟩:S39) [.int .i64 ((rd_T41 l0_1 (rd l1 x8_1)).f0),.int .i64 ((rd_T41 l0_1 (rd l1 x8_1)).f1),.int .i64 t183] (fun _=>True) (fun _=>False) rfl rfl ?aP (fun _ hk=>hk.elim) ?aF ?aO ?aB ?aS ?aL ?_;(case aP=>exact k39_mkM _ _ _ (⟨(rd_T41 l0_1 (rd l1 x8_1)).f0,(rd_T41 l0_1 (rd l1 x8_1)).f1,t183⟩:S39));(case aB=>exact (by repeat (first|(with_reducible first|exact HB.out|apply below_alloc|apply pw_below_drewN|apply below_drew1|refine below_set ?_ GE177.out|refine below_set ?_ GE178.out|refine below_set ?_ GE181.out)|exact HB.out)));(case aF=>exact (fun _ _=>trivial));(case aO=>exact (by (with_reducible repeat (first|apply Kd.R_alloc|apply Kd.R_drewN|apply Kd.R_drew));exact HO_6.out));(case aS=>exact (below_size (by repeat (first|(with_reducible first|exact HB.out|apply below_alloc|apply pw_below_drewN|apply below_drew1|refine below_set ?_ GE177.out|refine below_set ?_ GE178.out|refine below_set ?_ GE181.out)|exact HB.out))));(case aL=>have:=LMc10.out;omega);intro v185 w39 ho hb hg hat;rw [← Ny184.out] at ho;have n0_:=zF (blk_grown (g:=gb177) (o:=.cells #[.slice A0_0 l0_0.length c0_0,.slice (some ad180) l0_1.length c0_1,.slice A0_2 l0_2.length c0_2,.slice A0_3 l0_3.length c0_3,.slice A0_4 l0_4.length c0_4,.slice A0_5 l0_5.length c0_5] 81 (0,0)) (by (with_reducible repeat (first|refine blk_drewN ?_ _|refine blk_drew ?_|refine blk_alloc ?_ _));exact BK177.out) hg (Kd.R_ne HO_6.out BK177.out (by decide)));have n1_:=zF (blk_grown (g:=gb178) (o:=.cells #[.bool false,.slice none 0 0] 47 (0,0)) (by (with_reducible repeat (first|refine blk_drewN ?_ _|refine blk_drew ?_|refine blk_alloc ?_ _));exact BK178.out) hg (Kd.R_ne HO_6.out BK178.out (by decide)));have n2_:=zF (blk_grown (g:=gb181) (o:=.cells #[.int .i64 ((rd_T41 l0_1 (rd l1 x8_1)).f0),.int .i64 ((rd_T41 l0_1 (rd l1 x8_1)).f1),.slice A180_2 ((rd_T41 l0_1 (rd l1 x8_1)).f2).length c180_2] 41 (0,0)) (by (with_reducible repeat (first|refine blk_drewN ?_ _|refine blk_drew ?_|refine blk_alloc ?_ _));exact BK181.out) hg (Kd.R_ne HO_6.out BK181.out (by decide)));have n3_:=zF (hb);have n4_:=zF (ho);clear BK177;clear BK178;clear BK181;clear HB;clear HO_6;have BK177:=n0_;have BK178:=n1_;have BK181:=n2_;have HB:=n3_;have HO186:=n4_;clear n0_ n1_ n2_ n3_ n4_;clear ho hb hg hat;have hnb40:=NB177_178.out;have hnc40:=NB178_177.out;have hcz41_0:w39.cell? ⟨gb177,0,none⟩=some (.slice A0_0 l0_0.length c0_0):=(blk_cell BK177.out 0).trans rfl;have hcz41_1:w39.cell? ⟨gb177,1,none⟩=some (.slice (some ad180) l0_1.length c0_1):=(blk_cell BK177.out 1).trans rfl;have hcz41_2:w39.cell? ⟨gb177,2,none⟩=some (.slice A0_2 l0_2.length c0_2):=(blk_cell BK177.out 2).trans rfl;have hcz41_3:w39.cell? ⟨gb177,3,none⟩=some (.slice A0_3 l0_3.length c0_3):=(blk_cell BK177.out 3).trans rfl;have hcz41_4:w39.cell? ⟨gb177,4,none⟩=some (.slice A0_4 l0_4.length c0_4):=(blk_cell BK177.out 4).trans rfl;have hcz41_5:w39.cell? ⟨gb177,5,none⟩=some (.slice A0_5 l0_5.length c0_5):=(blk_cell BK177.out 5).trans rfl;have hfz41_0:=blk_frozen BK177.out 0;have hfz41_1:=blk_frozen BK177.out 1;have hfz41_2:=blk_frozen BK177.out 2;have hfz41_3:=blk_frozen BK177.out 3;have hfz41_4:=blk_frozen BK177.out 4;have hfz41_5:=blk_frozen BK177.out 5)|((with_reducible refine gate_callee (f:=78) rfl ?_);refine goesL_ (some 45) rfl rfl Try.func78 (by kernel_rfl) rfl #[.agg #[.slice A0_0 l0_0.length c0_0,.slice (some ad180) l0_1.length c0_1,.slice A0_2 l0_2.length c0_2,.slice A0_3 l0_3.length c0_3,.slice A0_4 l0_4.length c0_4,.slice A0_5 l0_5.length c0_5],.int .i64 t183] rfl (by (try simp only [List.map_toArray,List.map_cons,List.map_nil]);first|done|rfl|(simp only [List.length_drop,List.length_take];rfl)) ?_;(with_reducible refine (cohousingref24_tenant.calls k1 _ _ l0_0 _ _ l0_1 _ _ l0_2 _ _ l0_3 _ _ l0_4 _ _ l0_5 t183 t187 _ ?side1 ?side2 ?side3 ?side4 ?side5 ?side6 ?side7 ?side8 ?side9 ?side10 ?side11 ?side12 A11.out).mono ?_);(case side1=>repeat (first|exact (Kd.C_below HR0_0.out HB.out)|(with_reducible refine Kd.C_alloc ?_ _)|(with_reducible refine Kd.C_drewN ?_ _)|(with_reducible refine Kd.C_drew ?_)));(case side2=>exact HC0_0.out);(case side3=>repeat (first|exact (Kd.C_below HR0_1.out HB.out)|(with_reducible refine Kd.C_alloc ?_ _)|(with_reducible refine Kd.C_drewN ?_ _)|(with_reducible refine Kd.C_drew ?_)));(case side4=>exact HC0_1.out);(case side5=>repeat (first|exact (Kd.C_below HR0_2.out HB.out)|(with_reducible refine Kd.C_alloc ?_ _)|(with_reducible refine Kd.C_drewN ?_ _)|(with_reducible refine Kd.C_drew ?_)));(case side6=>exact HC0_2.out);(case side7=>repeat (first|exact (Kd.C_below HR0_3.out HB.out)|(with_reducible refine Kd.C_alloc ?_ _)|(with_reducible refine Kd.C_drewN ?_ _)|(with_reducible refine Kd.C_drew ?_)));(case side8=>exact HC0_3.out);(case side9=>repeat (first|exact (Kd.C_below HR0_4.out HB.out)|(with_reducible refine Kd.C_alloc ?_ _)|(with_reducible refine Kd.C_drewN ?_ _)|(with_reducible refine Kd.C_drew ?_)));(case side10=>exact HC0_4.out);(case side11=>repeat (first|exact (Kd.C_below HR0_5.out HB.out)|(with_reducible refine Kd.C_alloc ?_ _)|(with_reducible refine Kd.C_drewN ?_ _)|(with_reducible refine Kd.C_drew ?_)));(case side12=>exact HC0_5.out);rintro e w42 ⟨rfl,hb⟩;refine ⟨_,rfl,?_⟩;have n0_:=zF (Kd.R_below (by (with_reducible repeat (first|apply Kd.R_alloc|apply Kd.R_drewN|apply Kd.R_drew));exact HO186.out) hb);have n1_:=zF (blk_below (g:=gb177) (o:=.cells #[.slice A0_0 l0_0.length c0_0,.slice (some ad180) l0_1.length c0_1,.slice A0_2 l0_2.length c0_2,.slice A0_3 l0_3.length c0_3,.slice A0_4 l0_4.length c0_4,.slice A0_5 l0_5.length c0_5] 81 (0,0)) (by (with_reducible repeat (first|refine blk_drewN ?_ _|refine blk_drew ?_|refine blk_alloc ?_ _));exact BK177.out) hb);have n2_:=zF (blk_below (g:=gb178) (o:=.cells #[.bool false,.slice none 0 0] 47 (0,0)) (by (with_reducible repeat (first|refine blk_drewN ?_ _|refine blk_drew ?_|refine blk_alloc ?_ _));exact BK178.out) hb);have n3_:=zF (blk_below (g:=gb181) (o:=.cells #[.int .i64 ((rd_T41 l0_1 (rd l1 x8_1)).f0),.int .i64 ((rd_T41 l0_1 (rd l1 x8_1)).f1),.slice A180_2 ((rd_T41 l0_1 (rd l1 x8_1)).f2).length c180_2] 41 (0,0)) (by (with_reducible repeat (first|refine blk_drewN ?_ _|refine blk_drew ?_|refine blk_alloc ?_ _));exact BK181.out) hb);have n4_:=zF (below_step (by repeat (first|(with_reducible first|exact HB.out|apply below_alloc|apply pw_below_drewN|apply below_drew1|refine below_set ?_ GE177.out|refine below_set ?_ GE178.out|refine below_set ?_ GE181.out)|exact HB.out)) hb);clear HO186;clear BK177;clear BK178;clear BK181;clear HB;have HO186:=n0_;have BK177:=n1_;have BK178:=n2_;have BK181:=n3_;have HB:=n4_;clear n0_ n1_ n2_ n3_ n4_;(try clear hb);(try clear hb2);(try clear hk);(try clear hi)))
         go_roundg k1
         case measure=>have:=HK1.out;omega
         case rel=>exact ⟨(y184),(x7_1),(wrap64 (x8_1 + 1)),(by first|rfl|(simp;done)|(simp [*];done)),(by first|rfl|(simp;done)|(simp [*];done)),H',⟨by have:=HK1.out;omega⟩,⟨by (with_reducible repeat (first|apply Kd.R_alloc|apply Kd.R_drewN|apply Kd.R_drew));exact HO186.out⟩,⟨by (with_reducible repeat (first|refine blk_drewN ?_ _|refine blk_drew ?_|refine blk_alloc ?_ _));exact BK177.out⟩,⟨by (with_reducible repeat (first|refine blk_drewN ?_ _|refine blk_drew ?_|refine blk_alloc ?_ _));exact BK178.out⟩,⟨by repeat (first|(with_reducible first|exact HB.out|apply below_alloc|apply pw_below_drewN|apply below_drew1|refine below_set ?_ GE177.out|refine below_set ?_ GE178.out|refine below_set ?_ GE181.out)|exact HB.out)⟩⟩
       ·
        rw [if_neg c10] at H
        exact absurd H (by simp)
      ·
       rw [if_neg c8] at H
       exact absurd H (by simp)
     ·
      rw [if_neg c7] at H
      exact absurd H (by simp)
    ·
     rw [if_neg c6] at H
     exact absurd H (by simp)
   ·
    rw [if_neg c5] at H
    have c5b0:decide (x8_1 < (l1.length:Int))=false:=decide_eq_false c5
    clear c5
    by_cases c43:x7_1 < 0
    ·
     rw [if_pos c43] at H
     have c43b0:decide (x7_1 < 0)=true:=decide_eq_true c43
     clear c43
     by_cases c44:(x6_1.length:Int) > 1
     ·
      rw [if_pos c44] at H
      have c44b0:decide (1 < (x6_1.length:Int))=true:=decide_eq_true c44
      have c44b1:decide (1 < x6_1.length)=true:=decide_eq_true (by omega)
      clear c44
      simp only [Option.some.injEq,Prod.mk.injEq] at H
      obtain ⟨rfl,rfl,rfl⟩:=H
      try go_wp2
      have n0_:=zF (Kd.R_drew HO_6.out)
      have n1_:=zF (blk_drew BK177.out)
      have n2_:=zF (blk_drew BK178.out)
      have n3_:=zF (below_drew1 HB.out)
      clear HO_6 BK177 BK178 HB
      have HO_6:=n0_
      have BK177:=n1_
      have BK178:=n2_
      have HB:=n3_
      clear n0_ n1_ n2_ n3_
      obtain ⟨Ao46,co46,eo46⟩:=Kd.R_slice HO_6.out
      (first|subst eo46|(injection eo46 with f1_ f2_ f3_;have f4_:=f1_.symm;have f5_:=f3_.symm;clear f1_ f2_ f3_;subst f4_;subst f5_))
      refine start_ (n:=18) (S:=fun w'=>True) (ds:=[]) #[false,false,false,false,false,false,false,false,false,false,false,false,false,false,false,false,false,false] (by kernel_rfl) rfl rfl trivial (fun hHeld=>?_);refine with_tabW cohousingref24_ring.tab12 cohousingref24_ring.bits12 (fun HT_ HW_=>?_)
      generalize wr.drew=w45 at HO_6 BK177 BK178 HB hHeld ⊢
      refine pure_ (i:=0) (N:=some 50) (v:=?_) (a':=?_) #[true,false,false,false,false,false,false,false,false,false,false,false,false,false,false,false,false,false] rfl rfl (any_of HT_.out (by kernel_rfl)) (fun _ _ _ h=>h) (Or.inl ⟨by rfl,?_⟩) ?_ ?_
      rotate_left
      ·
       intro w'
       go_simp
       with_reducible rfl
      rotate_left
      ·
       simp only [Act.put,zA,zB,zC,i64_w,i32_w]
       rfl
      refine pure_ (i:=1) (N:=some 51) (v:=?_) (a':=?_) #[true,true,false,false,false,false,false,false,false,false,false,false,false,false,false,false,false,false] rfl rfl (any_of HT_.out (by kernel_rfl)) (fun _ _ _ h=>h) (Or.inl ⟨by rfl,?_⟩) ?_ ?_
      rotate_left
      ·
       intro w'
       go_simp
       with_reducible rfl
      rotate_left
      ·
       simp only [Act.put,zA,zB,zC,i64_w,i32_w]
       rfl
      refine pure_ (i:=2) (N:=some 52) (v:=?_) (a':=?_) #[true,true,true,false,false,false,false,false,false,false,false,false,false,false,false,false,false,false] rfl rfl (any_of HT_.out (by kernel_rfl)) (fun _ _ _ h=>h) (Or.inl ⟨by rfl,?_⟩) ?_ ?_
      rotate_left
      ·
       intro w'
       go_simp
       with_reducible rfl
      rotate_left
      ·
       simp only [Act.put,zA,zB,zC,i64_w,i32_w]
       rfl
      refine pure_ (i:=3) (N:=some 53) (v:=?_) (a':=?_) #[true,true,true,true,false,false,false,false,false,false,false,false,false,false,false,false,false,false] rfl rfl (any_of HT_.out (by kernel_rfl)) (fun _ _ _ h=>h) (Or.inl ⟨by rfl,?_⟩) ?_ ?_
      rotate_left
      ·
       intro w'
       go_simp
       with_reducible rfl
      rotate_left
      ·
       simp only [Act.put,zA,zB,zC,i64_w,i32_w]
       rfl
      refine pure_ (i:=4) (N:=some 54) (v:=?_) (a':=?_) #[true,true,true,true,true,false,false,false,false,false,false,false,false,false,false,false,false,false] rfl rfl (any_of HT_.out (by kernel_rfl)) (fun _ _ _ h=>h) (Or.inl ⟨by rfl,?_⟩) ?_ ?_
      rotate_left
      ·
       intro w'
       go_simp
       with_reducible rfl
      rotate_left
      ·
       simp only [Act.put,zA,zB,zC,i64_w,i32_w]
       rfl
      refine pure_ (i:=5) (N:=some 55) (v:=?_) (a':=?_) #[true,true,true,true,true,true,false,false,false,false,false,false,false,false,false,false,false,false] rfl rfl (any_of HT_.out (by kernel_rfl)) (fun _ _ _ h=>h) (Or.inl ⟨by rfl,?_⟩) ?_ ?_
      rotate_left
      ·
       intro w'
       go_simp
       with_reducible rfl
      rotate_left
      ·
       simp only [Act.put,zA,zB,zC,i64_w,i32_w]
       rfl
      refine pure_ (i:=6) (N:=some 56) (v:=undef) (a':=?_) #[true,true,true,true,true,true,true,false,false,false,false,false,false,false,false,false,false,false] rfl rfl (any_of HT_.out (by kernel_rfl)) (fun _ _ _ h=>h) (Or.inr ⟨by rfl,rfl⟩) ?_ ?_
      rotate_left
      ·
       simp only [Act.put,zA,zB,zC,i64_w,i32_w]
       rfl
      refine pure_ (i:=7) (N:=some 57) (v:=undef) (a':=?_) #[true,true,true,true,true,true,true,true,false,false,false,false,false,false,false,false,false,false] rfl rfl (any_of HT_.out (by kernel_rfl)) (fun _ _ _ h=>h) (Or.inr ⟨by rfl,rfl⟩) ?_ ?_
      rotate_left
      ·
       simp only [Act.put,zA,zB,zC,i64_w,i32_w]
       rfl
      refine pure_ (i:=8) (N:=some 58) (v:=undef) (a':=?_) #[true,true,true,true,true,true,true,true,true,false,false,false,false,false,false,false,false,false] rfl rfl (any_of HT_.out (by kernel_rfl)) (fun _ _ _ h=>h) (Or.inr ⟨by rfl,rfl⟩) ?_ ?_
      rotate_left
      ·
       simp only [Act.put,zA,zB,zC,i64_w,i32_w]
       rfl
      refine pure_ (i:=9) (N:=some 59) (v:=undef) (a':=?_) #[true,true,true,true,true,true,true,true,true,true,false,false,false,false,false,false,false,false] rfl rfl (any_of HT_.out (by kernel_rfl)) (fun _ _ _ h=>h) (Or.inr ⟨by rfl,rfl⟩) ?_ ?_
      rotate_left
      ·
       simp only [Act.put,zA,zB,zC,i64_w,i32_w]
       rfl
      refine pure_ (i:=10) (N:=some 60) (v:=undef) (a':=?_) #[true,true,true,true,true,true,true,true,true,true,true,false,false,false,false,false,false,false] rfl rfl (any_of HT_.out (by kernel_rfl)) (fun _ _ _ h=>h) (Or.inr ⟨by rfl,rfl⟩) ?_ ?_
      rotate_left
      ·
       simp only [Act.put,zA,zB,zC,i64_w,i32_w]
       rfl
      refine pure_ (i:=11) (N:=some 61) (v:=undef) (a':=?_) #[true,true,true,true,true,true,true,true,true,true,true,true,false,false,false,false,false,false] rfl rfl (any_of HT_.out (by kernel_rfl)) (fun _ _ _ h=>h) (Or.inr ⟨by rfl,rfl⟩) ?_ ?_
      rotate_left
      ·
       simp only [Act.put,zA,zB,zC,i64_w,i32_w]
       rfl
      refine pure_ (i:=12) (N:=some 62) (v:=undef) (a':=?_) #[true,true,true,true,true,true,true,true,true,true,true,true,true,false,false,false,false,false] rfl rfl (any_of HT_.out (by kernel_rfl)) (fun _ _ _ h=>h) (Or.inr ⟨by rfl,rfl⟩) ?_ ?_
      rotate_left
      ·
       simp only [Act.put,zA,zB,zC,i64_w,i32_w]
       rfl
      refine pure_ (i:=13) (N:=some 63) (v:=undef) (a':=?_) #[true,true,true,true,true,true,true,true,true,true,true,true,true,true,false,false,false,false] rfl rfl (any_of HT_.out (by kernel_rfl)) (fun _ _ _ h=>h) (Or.inr ⟨by rfl,rfl⟩) ?_ ?_
      rotate_left
      ·
       simp only [Act.put,zA,zB,zC,i64_w,i32_w]
       rfl
      refine pure_ (i:=14) (N:=some 64) (v:=undef) (a':=?_) #[true,true,true,true,true,true,true,true,true,true,true,true,true,true,true,false,false,false] rfl rfl (any_of HT_.out (by kernel_rfl)) (fun _ _ _ h=>h) (Or.inr ⟨by rfl,rfl⟩) ?_ ?_
      rotate_left
      ·
       simp only [Act.put,zA,zB,zC,i64_w,i32_w]
       rfl
      refine pure_ (i:=15) (N:=some 65) (v:=?_) (a':=?_) #[true,true,true,true,true,true,true,true,true,true,true,true,true,true,true,true,false,false] rfl rfl (any_of HT_.out (by kernel_rfl)) (fun _ _ _ h=>h) (Or.inl ⟨by rfl,?_⟩) ?_ ?_
      rotate_left
      ·
       intro w'
       go_simp
       with_reducible rfl
      rotate_left
      ·
       simp only [Act.put,zA,zB,zC,i64_w,i32_w]
       rfl
      refine one_ (i:=16) (N:=none) #[true,true,true,true,true,true,true,true,true,true,true,true,true,true,true,true,true,false] rfl rfl (one_of HT_.out (by kernel_rfl)) (by decide) (fun K hK=>?_)
      have hs47:w45.cell? ⟨gb178,0,none⟩=some (.bool false):=(blk_cell BK178.out 0).trans rfl
      have hfs47:=blk_frozen BK178.out 0
      have hns47_0:=NB177_178.out
      have hms47_0:=NB178_177.out
      have hs48:w45.cell? ⟨gb178,1,none⟩=some (.slice none 0 0):=(blk_cell BK178.out 1).trans rfl
      have hfs48:=blk_frozen BK178.out 1
      have hns48_0:=NB177_178.out
      have hms48_0:=NB178_177.out
      refine skip_ (w1:=?_) (by rfl) rfl ?_ ?_
      rotate_left
      ·
       go_simp
       rfl
      refine hK.out _ _ trivial (fun hHeld=>?_)
      clear hK K
      refine pure_ (i:=17) (N:=some 5) (v:=?_) (a':=?_) #[true,true,true,true,true,true,true,true,true,true,true,true,true,true,true,true,true,true] rfl rfl (any_of HT_.out (by kernel_rfl)) (fun _ _ _ h=>h) (Or.inl ⟨by rfl,?_⟩) ?_ ?_
      rotate_left
      ·
       intro w'
       go_simp
       with_reducible rfl
      rotate_left
      ·
       simp only [Act.put,zA,zB,zC,i64_w,i32_w]
       rfl
      refine done_ (done_of HT_.out (by kernel_rfl)) ?_
      try go_wp2
      refine bodyPost_ret (results_ct rfl _ _ gb178 47 #[.bool false,.slice Ao46 x6_1.length co46] (0,0) _ rfl (by (with_reducible repeat (first|refine blk_drewN ?_ _|refine blk_drew ?_|refine blk_alloc ?_ _));refine blk_put (cs:=#[.bool false,.slice none 0 0]) ?_ 1 _ rfl;(with_reducible repeat (first|refine blk_drewN ?_ _|refine blk_drew ?_|refine blk_alloc ?_ _));refine blk_put (cs:=#[.bool false,.slice none 0 0]) ?_ 0 _ rfl;(with_reducible repeat (first|refine blk_drewN ?_ _|refine blk_drew ?_|refine blk_alloc ?_ _));exact BK178.out) Try.underlying47 rfl (by kernel_rfl)) rfl ?_
      exact ⟨_,by first|rfl|(simp [errW_none,errW_some] <;> rfl)|(simp [*,errW_none,errW_some] <;> rfl),by (with_reducible repeat (first|apply Kd.R_alloc|apply Kd.R_drewN|apply Kd.R_drew));exact Kd.R_mono (Kd.R_far (p:=⟨gb178,1,none⟩) (Kd.R_far (p:=⟨gb178,0,none⟩) (Kd.R_types HO_6.out BK178.out (by decide)) (fun _ hk=>hk.2) (.bool false)) (fun _ hk=>hk.2) (.slice Ao46 x6_1.length co46)) (fun _ hk=>trivial),by repeat (first|(with_reducible first|exact HB.out|apply below_alloc|apply pw_below_drewN|apply below_drew1|refine below_set ?_ GE177.out|refine below_set ?_ GE178.out)|exact HB.out)⟩
     ·
      rw [if_neg c44] at H
      have c44b0:decide (1 < (x6_1.length:Int))=false:=decide_eq_false c44
      have c44b1:decide (1 < x6_1.length)=false:=decide_eq_false (by omega)
      clear c44
      by_cases c49:0 < (x6_1.length:Int)
      ·
       rw [if_pos c49] at H
       have c49b0:decide (0 < (x6_1.length:Int))=true:=decide_eq_true c49
       have c49b1:decide (0 < x6_1.length)=true:=decide_eq_true (by omega)
       clear c49
       simp only [Option.some.injEq,Prod.mk.injEq] at H
       obtain ⟨rfl,rfl,rfl⟩:=H
       try go_wp2
       have n0_:=zF (Kd.R_drew HO_6.out)
       have n1_:=zF (blk_drew BK177.out)
       have n2_:=zF (blk_drew BK178.out)
       have n3_:=zF (below_drew1 HB.out)
       clear HO_6 BK177 BK178 HB
       have HO_6:=n0_
       have BK177:=n1_
       have BK178:=n2_
       have HB:=n3_
       clear n0_ n1_ n2_ n3_
       obtain ⟨Ao51,co51,eo51⟩:=Kd.R_slice HO_6.out
       (first|subst eo51|(injection eo51 with f1_ f2_ f3_;have f4_:=f1_.symm;have f5_:=f3_.symm;clear f1_ f2_ f3_;subst f4_;subst f5_))
       have p188:0≤(0:Int):=(by omega)
       have q188:0 < (x6_1.length:Int):=zE (by first|(with_reducible assumption)|assumption)
       obtain ⟨ad188,e188,hx188_0,hx188_1,hx188_2⟩:=at_T39 (Kd.R_reads' HO_6.out).2.2 0 p188 q188
       cases e188
       have qi188:(0 < x6_1.length)=True:=eq_true (by omega)
       (try rw [show ((0:Int)).toNat=0 from rfl] at hx188_0)
       (try rw [show 0 * 3=0 from rfl] at hx188_0)
       (try rw [Addr.add_zero'] at hx188_0)
       (try rw [show ((0:Int)).toNat=0 from rfl] at hx188_1)
       (try rw [show 0 * 3=0 from rfl] at hx188_1)
       (try rw [Addr.add_zero'] at hx188_1)
       (try rw [show ((0:Int)).toNat=0 from rfl] at hx188_2)
       (try rw [show 0 * 3=0 from rfl] at hx188_2)
       (try rw [Addr.add_zero'] at hx188_2)
       replace p188:=eq_true p188
       replace q188:=eq_true q188
       have p189:0≤(0:Int):=(by omega)
       have q189:0 < (x6_1.length:Int):=zE (by first|(with_reducible assumption)|assumption)
       obtain ⟨ad189,e189,hx189_0,hx189_1,hx189_2⟩:=at_T39 (Kd.R_reads' HO_6.out).2.2 0 p189 q189
       obtain rfl:ad188=ad189:=(by injection e189)
       have qi189:(0 < x6_1.length)=True:=eq_true (by omega)
       (try rw [show ((0:Int)).toNat=0 from rfl] at hx189_0)
       (try rw [show 0 * 3=0 from rfl] at hx189_0)
       (try rw [Addr.add_zero'] at hx189_0)
       (try rw [show ((0:Int)).toNat=0 from rfl] at hx189_1)
       (try rw [show 0 * 3=0 from rfl] at hx189_1)
       (try rw [Addr.add_zero'] at hx189_1)
       (try rw [show ((0:Int)).toNat=0 from rfl] at hx189_2)
       (try rw [show 0 * 3=0 from rfl] at hx189_2)
       (try rw [Addr.add_zero'] at hx189_2)
       replace p189:=eq_true p189
       replace q189:=eq_true q189
       refine start_ (n:=18) (S:=fun w'=>w'.cell? ad188=some (.int .i64 ((rd_T39 x6_1 0).f0))∧w'.cell? ⟨ad188.block,ad188.off + 1,none⟩=some (.int .i64 ((rd_T39 x6_1 0).f1))∧w'.cell? ⟨ad188.block,ad188.off + 2,none⟩=some (.int .i64 ((rd_T39 x6_1 0).f2))∧w'.cell? ad188=some (.int .i64 ((rd_T39 x6_1 0).f0))∧w'.cell? ⟨ad188.block,ad188.off + 1,none⟩=some (.int .i64 ((rd_T39 x6_1 0).f1))∧w'.cell? ⟨ad188.block,ad188.off + 2,none⟩=some (.int .i64 ((rd_T39 x6_1 0).f2))) (ds:=[]) #[false,false,false,false,false,false,false,false,false,false,false,false,false,false,false,false,false,false] (by kernel_rfl) rfl rfl ⟨hx188_0,hx188_1,hx188_2,hx189_0,hx189_1,hx189_2⟩ (fun hHeld=>?_);refine with_tabW cohousingref24_ring.tab12 cohousingref24_ring.bits12 (fun HT_ HW_=>?_)
       generalize wr.drew=w50 at HO_6 BK177 BK178 HB hx188_0 hx188_1 hx188_2 hx189_0 hx189_1 hx189_2 hHeld ⊢
       refine pure_ (i:=0) (N:=some 50) (v:=?_) (a':=?_) #[true,false,false,false,false,false,false,false,false,false,false,false,false,false,false,false,false,false] rfl rfl (any_of HT_.out (by kernel_rfl)) (fun _ _ _ h=>h) (Or.inl ⟨by rfl,?_⟩) ?_ ?_
       rotate_left
       ·
        intro w'
        go_simp
        with_reducible rfl
       rotate_left
       ·
        simp only [Act.put,zA,zB,zC,i64_w,i32_w]
        rfl
       refine pure_ (i:=1) (N:=some 51) (v:=?_) (a':=?_) #[true,true,false,false,false,false,false,false,false,false,false,false,false,false,false,false,false,false] rfl rfl (any_of HT_.out (by kernel_rfl)) (fun _ _ _ h=>h) (Or.inl ⟨by rfl,?_⟩) ?_ ?_
       rotate_left
       ·
        intro w'
        go_simp
        with_reducible rfl
       rotate_left
       ·
        simp only [Act.put,zA,zB,zC,i64_w,i32_w]
        rfl
       refine pure_ (i:=2) (N:=some 52) (v:=?_) (a':=?_) #[true,true,true,false,false,false,false,false,false,false,false,false,false,false,false,false,false,false] rfl rfl (any_of HT_.out (by kernel_rfl)) (fun _ _ _ h=>h) (Or.inl ⟨by rfl,?_⟩) ?_ ?_
       rotate_left
       ·
        intro w'
        go_simp
        with_reducible rfl
       rotate_left
       ·
        simp only [Act.put,zA,zB,zC,i64_w,i32_w]
        rfl
       refine pure_ (i:=3) (N:=some 53) (v:=?_) (a':=?_) #[true,true,true,true,false,false,false,false,false,false,false,false,false,false,false,false,false,false] rfl rfl (any_of HT_.out (by kernel_rfl)) (fun _ _ _ h=>h) (Or.inl ⟨by rfl,?_⟩) ?_ ?_
       rotate_left
       ·
        intro w'
        go_simp
        with_reducible rfl
       rotate_left
       ·
        simp only [Act.put,zA,zB,zC,i64_w,i32_w]
        rfl
       refine pure_ (i:=4) (N:=some 54) (v:=?_) (a':=?_) #[true,true,true,true,true,false,false,false,false,false,false,false,false,false,false,false,false,false] rfl rfl (any_of HT_.out (by kernel_rfl)) (fun _ _ _ h=>h) (Or.inl ⟨by rfl,?_⟩) ?_ ?_
       rotate_left
       ·
        intro w'
        go_simp
        with_reducible rfl
       rotate_left
       ·
        simp only [Act.put,zA,zB,zC,i64_w,i32_w]
        rfl
       refine pure_ (i:=5) (N:=some 55) (v:=?_) (a':=?_) #[true,true,true,true,true,true,false,false,false,false,false,false,false,false,false,false,false,false] rfl rfl (any_of HT_.out (by kernel_rfl)) (fun _ _ _ h=>h) (Or.inl ⟨by rfl,?_⟩) ?_ ?_
       rotate_left
       ·
        intro w'
        go_simp
        with_reducible rfl
       rotate_left
       ·
        simp only [Act.put,zA,zB,zC,i64_w,i32_w]
        rfl
       refine pure_ (i:=6) (N:=some 56) (v:=?_) (a':=?_) #[true,true,true,true,true,true,true,false,false,false,false,false,false,false,false,false,false,false] rfl rfl (any_of HT_.out (by kernel_rfl)) (fun _ _ _ h=>h) (Or.inl ⟨by rfl,?_⟩) ?_ ?_
       rotate_left
       ·
        intro w'
        go_simp
        with_reducible rfl
       rotate_left
       ·
        simp only [Act.put,zA,zB,zC,i64_w,i32_w]
        rfl
       refine pure_ (i:=7) (N:=some 57) (v:=?_) (a':=?_) #[true,true,true,true,true,true,true,true,false,false,false,false,false,false,false,false,false,false] rfl rfl (any_of HT_.out (by kernel_rfl)) (fun _ _ _ h=>h) (Or.inl ⟨by rfl,?_⟩) ?_ ?_
       rotate_left
       ·
        intro w'
        go_simp
        with_reducible rfl
       rotate_left
       ·
        simp only [Act.put,zA,zB,zC,i64_w,i32_w]
        rfl
       refine pure_ (i:=8) (N:=some 58) (v:=?_) (a':=?_) #[true,true,true,true,true,true,true,true,true,false,false,false,false,false,false,false,false,false] rfl rfl (any_of HT_.out (by kernel_rfl)) (fun _ _ _ h=>h) (Or.inl ⟨by rfl,?_⟩) ?_ ?_
       rotate_left
       ·
        intro w'
        go_simp
        with_reducible rfl
       rotate_left
       ·
        simp only [Act.put,zA,zB,zC,i64_w,i32_w]
        rfl
       refine pure_ (i:=10) (N:=some 60) (v:=?_) (a':=?_) #[true,true,true,true,true,true,true,true,true,false,true,false,false,false,false,false,false,false] rfl rfl (any_of HT_.out (by kernel_rfl)) (fun _ _ _ h=>h) (Or.inl ⟨by rfl,?_⟩) ?_ ?_
       rotate_left
       ·
        intro w'
        go_simp
        with_reducible rfl
       rotate_left
       ·
        simp only [Act.put,zA,zB,zC,i64_w,i32_w]
        rfl
       refine pure_ (i:=11) (N:=some 61) (v:=?_) (a':=?_) #[true,true,true,true,true,true,true,true,true,false,true,true,false,false,false,false,false,false] rfl rfl (any_of HT_.out (by kernel_rfl)) (fun _ _ _ h=>h) (Or.inl ⟨by rfl,?_⟩) ?_ ?_
       rotate_left
       ·
        intro w'
        go_simp
        with_reducible rfl
       rotate_left
       ·
        simp only [Act.put,zA,zB,zC,i64_w,i32_w]
        rfl
       refine pure_ (i:=12) (N:=some 62) (v:=?_) (a':=?_) #[true,true,true,true,true,true,true,true,true,false,true,true,true,false,false,false,false,false] rfl rfl (any_of HT_.out (by kernel_rfl)) (fun _ _ _ h=>h) (Or.inl ⟨by rfl,?_⟩) ?_ ?_
       rotate_left
       ·
        intro w'
        go_simp
        with_reducible rfl
       rotate_left
       ·
        simp only [Act.put,zA,zB,zC,i64_w,i32_w]
        rfl
       refine take_ (i:=9) (N:=some 59) (v:=?_) (a':=?_) #[true,true,true,true,true,true,true,true,true,true,true,true,true,false,false,false,false,false] rfl rfl (take_ofW HT_.out HW_.out (by kernel_rfl)) (fun _ _ _ h=>h) (Or.inl ⟨by rfl,?_⟩) hHeld ?_ ?_
       rotate_left
       ·
        rintro w' ⟨s0,s1,s2,s3,s4,s5⟩
        go_simp
        with_reducible rfl
       rotate_left
       ·
        simp only [Act.put,zA,zB,zC,i64_w,i32_w]
        rfl
       refine take_ (i:=13) (N:=some 63) (v:=?_) (a':=?_) #[true,true,true,true,true,true,true,true,true,true,true,true,true,true,false,false,false,false] rfl rfl (take_ofW HT_.out HW_.out (by kernel_rfl)) (fun _ _ _ h=>h) (Or.inl ⟨by rfl,?_⟩) hHeld ?_ ?_
       rotate_left
       ·
        rintro w' ⟨s0,s1,s2,s3,s4,s5⟩
        go_simp
        with_reducible rfl
       rotate_left
       ·
        simp only [Act.put,zA,zB,zC,i64_w,i32_w]
        rfl
       refine pure_ (i:=14) (N:=some 64) (v:=?_) (a':=?_) #[true,true,true,true,true,true,true,true,true,true,true,true,true,true,true,false,false,false] rfl rfl (any_of HT_.out (by kernel_rfl)) (fun _ _ _ h=>h) (Or.inl ⟨by rfl,?_⟩) ?_ ?_
       rotate_left
       ·
        intro w'
        go_simp
        with_reducible rfl
       rotate_left
       ·
        simp only [Act.put,zA,zB,zC,i64_w,i32_w]
        rfl
       refine pure_ (i:=15) (N:=some 65) (v:=?_) (a':=?_) #[true,true,true,true,true,true,true,true,true,true,true,true,true,true,true,true,false,false] rfl rfl (any_of HT_.out (by kernel_rfl)) (fun _ _ _ h=>h) (Or.inl ⟨by rfl,?_⟩) ?_ ?_
       rotate_left
       ·
        intro w'
        go_simp
        with_reducible rfl
       rotate_left
       ·
        simp only [Act.put,zA,zB,zC,i64_w,i32_w]
        rfl
       refine one_ (i:=16) (N:=none) #[true,true,true,true,true,true,true,true,true,true,true,true,true,true,true,true,true,false] rfl rfl (one_of HT_.out (by kernel_rfl)) (by decide) (fun K hK=>?_)
       have hs52:w50.cell? ⟨gb178,0,none⟩=some (.bool false):=(blk_cell BK178.out 0).trans rfl
       have hfs52:=blk_frozen BK178.out 0
       have hns52_0:=NB177_178.out
       have hms52_0:=NB178_177.out
       have hs53:w50.cell? ⟨gb178,1,none⟩=some (.slice none 0 0):=(blk_cell BK178.out 1).trans rfl
       have hfs53:=blk_frozen BK178.out 1
       have hns53_0:=NB177_178.out
       have hms53_0:=NB178_177.out
       refine skip_ (w1:=?_) (by rfl) rfl ?_ ?_
       rotate_left
       ·
        go_simp
        rfl
       refine hK.out _ _ ⟨((cell_far (p:=⟨gb178,_,none⟩) (by first|exact Kd.own_blk (Kd.R_ne HO_6.out BK178.out (by decide))|(rw [add_block];exact Kd.own_blk (Kd.R_ne HO_6.out BK178.out (by decide)))|(show (Addr.add _ _).block≠_;rw [add_block];exact Kd.own_blk (Kd.R_ne HO_6.out BK178.out (by decide)))|(dsimp only;exact Kd.own_blk (Kd.R_ne HO_6.out BK178.out (by decide)))) _).trans (((cell_far (p:=⟨gb178,_,none⟩) (by first|exact Kd.own_blk (Kd.R_ne HO_6.out BK178.out (by decide))|(rw [add_block];exact Kd.own_blk (Kd.R_ne HO_6.out BK178.out (by decide)))|(show (Addr.add _ _).block≠_;rw [add_block];exact Kd.own_blk (Kd.R_ne HO_6.out BK178.out (by decide)))|(dsimp only;exact Kd.own_blk (Kd.R_ne HO_6.out BK178.out (by decide)))) _).trans (hHeld.1)))),((cell_far (p:=⟨gb178,_,none⟩) (by first|exact Kd.own_blk (Kd.R_ne HO_6.out BK178.out (by decide))|(rw [add_block];exact Kd.own_blk (Kd.R_ne HO_6.out BK178.out (by decide)))|(show (Addr.add _ _).block≠_;rw [add_block];exact Kd.own_blk (Kd.R_ne HO_6.out BK178.out (by decide)))|(dsimp only;exact Kd.own_blk (Kd.R_ne HO_6.out BK178.out (by decide)))) _).trans (((cell_far (p:=⟨gb178,_,none⟩) (by first|exact Kd.own_blk (Kd.R_ne HO_6.out BK178.out (by decide))|(rw [add_block];exact Kd.own_blk (Kd.R_ne HO_6.out BK178.out (by decide)))|(show (Addr.add _ _).block≠_;rw [add_block];exact Kd.own_blk (Kd.R_ne HO_6.out BK178.out (by decide)))|(dsimp only;exact Kd.own_blk (Kd.R_ne HO_6.out BK178.out (by decide)))) _).trans (hHeld.2.1)))),((cell_far (p:=⟨gb178,_,none⟩) (by first|exact Kd.own_blk (Kd.R_ne HO_6.out BK178.out (by decide))|(rw [add_block];exact Kd.own_blk (Kd.R_ne HO_6.out BK178.out (by decide)))|(show (Addr.add _ _).block≠_;rw [add_block];exact Kd.own_blk (Kd.R_ne HO_6.out BK178.out (by decide)))|(dsimp only;exact Kd.own_blk (Kd.R_ne HO_6.out BK178.out (by decide)))) _).trans (((cell_far (p:=⟨gb178,_,none⟩) (by first|exact Kd.own_blk (Kd.R_ne HO_6.out BK178.out (by decide))|(rw [add_block];exact Kd.own_blk (Kd.R_ne HO_6.out BK178.out (by decide)))|(show (Addr.add _ _).block≠_;rw [add_block];exact Kd.own_blk (Kd.R_ne HO_6.out BK178.out (by decide)))|(dsimp only;exact Kd.own_blk (Kd.R_ne HO_6.out BK178.out (by decide)))) _).trans (hHeld.2.2.1)))),((cell_far (p:=⟨gb178,_,none⟩) (by first|exact Kd.own_blk (Kd.R_ne HO_6.out BK178.out (by decide))|(rw [add_block];exact Kd.own_blk (Kd.R_ne HO_6.out BK178.out (by decide)))|(show (Addr.add _ _).block≠_;rw [add_block];exact Kd.own_blk (Kd.R_ne HO_6.out BK178.out (by decide)))|(dsimp only;exact Kd.own_blk (Kd.R_ne HO_6.out BK178.out (by decide)))) _).trans (((cell_far (p:=⟨gb178,_,none⟩) (by first|exact Kd.own_blk (Kd.R_ne HO_6.out BK178.out (by decide))|(rw [add_block];exact Kd.own_blk (Kd.R_ne HO_6.out BK178.out (by decide)))|(show (Addr.add _ _).block≠_;rw [add_block];exact Kd.own_blk (Kd.R_ne HO_6.out BK178.out (by decide)))|(dsimp only;exact Kd.own_blk (Kd.R_ne HO_6.out BK178.out (by decide)))) _).trans (hHeld.2.2.2.1)))),((cell_far (p:=⟨gb178,_,none⟩) (by first|exact Kd.own_blk (Kd.R_ne HO_6.out BK178.out (by decide))|(rw [add_block];exact Kd.own_blk (Kd.R_ne HO_6.out BK178.out (by decide)))|(show (Addr.add _ _).block≠_;rw [add_block];exact Kd.own_blk (Kd.R_ne HO_6.out BK178.out (by decide)))|(dsimp only;exact Kd.own_blk (Kd.R_ne HO_6.out BK178.out (by decide)))) _).trans (((cell_far (p:=⟨gb178,_,none⟩) (by first|exact Kd.own_blk (Kd.R_ne HO_6.out BK178.out (by decide))|(rw [add_block];exact Kd.own_blk (Kd.R_ne HO_6.out BK178.out (by decide)))|(show (Addr.add _ _).block≠_;rw [add_block];exact Kd.own_blk (Kd.R_ne HO_6.out BK178.out (by decide)))|(dsimp only;exact Kd.own_blk (Kd.R_ne HO_6.out BK178.out (by decide)))) _).trans (hHeld.2.2.2.2.1)))),((cell_far (p:=⟨gb178,_,none⟩) (by first|exact Kd.own_blk (Kd.R_ne HO_6.out BK178.out (by decide))|(rw [add_block];exact Kd.own_blk (Kd.R_ne HO_6.out BK178.out (by decide)))|(show (Addr.add _ _).block≠_;rw [add_block];exact Kd.own_blk (Kd.R_ne HO_6.out BK178.out (by decide)))|(dsimp only;exact Kd.own_blk (Kd.R_ne HO_6.out BK178.out (by decide)))) _).trans (((cell_far (p:=⟨gb178,_,none⟩) (by first|exact Kd.own_blk (Kd.R_ne HO_6.out BK178.out (by decide))|(rw [add_block];exact Kd.own_blk (Kd.R_ne HO_6.out BK178.out (by decide)))|(show (Addr.add _ _).block≠_;rw [add_block];exact Kd.own_blk (Kd.R_ne HO_6.out BK178.out (by decide)))|(dsimp only;exact Kd.own_blk (Kd.R_ne HO_6.out BK178.out (by decide)))) _).trans (hHeld.2.2.2.2.2))))⟩ (fun hHeld=>?_)
       clear hK K
       refine pure_ (i:=17) (N:=some 5) (v:=?_) (a':=?_) #[true,true,true,true,true,true,true,true,true,true,true,true,true,true,true,true,true,true] rfl rfl (any_of HT_.out (by kernel_rfl)) (fun _ _ _ h=>h) (Or.inl ⟨by rfl,?_⟩) ?_ ?_
       rotate_left
       ·
        intro w'
        go_simp
        with_reducible rfl
       rotate_left
       ·
        simp only [Act.put,zA,zB,zC,i64_w,i32_w]
        rfl
       refine done_ (done_of HT_.out (by kernel_rfl)) ?_
       try go_wp2
       refine bodyPost_ret (results_ct rfl _ _ gb178 47 #[.bool false,.slice (some ad188) x6_1.length co51] (0,0) _ rfl (by (with_reducible repeat (first|refine blk_drewN ?_ _|refine blk_drew ?_|refine blk_alloc ?_ _));refine blk_put (cs:=#[.bool false,.slice none 0 0]) ?_ 1 _ rfl;(with_reducible repeat (first|refine blk_drewN ?_ _|refine blk_drew ?_|refine blk_alloc ?_ _));refine blk_put (cs:=#[.bool false,.slice none 0 0]) ?_ 0 _ rfl;(with_reducible repeat (first|refine blk_drewN ?_ _|refine blk_drew ?_|refine blk_alloc ?_ _));exact BK178.out) Try.underlying47 rfl (by kernel_rfl)) rfl ?_
       exact ⟨_,by first|rfl|(simp [errW_none,errW_some] <;> rfl)|(simp [*,errW_none,errW_some] <;> rfl),by (with_reducible repeat (first|apply Kd.R_alloc|apply Kd.R_drewN|apply Kd.R_drew));exact Kd.R_mono (Kd.R_far (p:=⟨gb178,1,none⟩) (Kd.R_far (p:=⟨gb178,0,none⟩) (Kd.R_types HO_6.out BK178.out (by decide)) (fun _ hk=>hk.2) (.bool false)) (fun _ hk=>hk.2) (.slice (some ad188) x6_1.length co51)) (fun _ hk=>trivial),by repeat (first|(with_reducible first|exact HB.out|apply below_alloc|apply pw_below_drewN|apply below_drew1|refine below_set ?_ GE177.out|refine below_set ?_ GE178.out)|exact HB.out)⟩
      ·
       rw [if_neg c49] at H
       exact absurd H (by simp)
    ·
     rw [if_neg c43] at H
     have c43b0:decide (x7_1 < 0)=false:=decide_eq_false c43
     clear c43
     have H':=zF H
     clear H
     go_wp2
     go_loopg [11,12] k1 (fun kq v11 v12 w'=>∃ (x11_2:List (S39)) (x12_2:Int),v12 = .int .i64 x12_2∧Aside0 (cohousingref24_ring.l1 kq x6_1 x7_1 x11_2 x12_2=some (r1,r2,r3))∧Aside0 (kq≤k1)∧Aside0 (Kd.R k39 39 w' w.heap.size (fun k_=>some k_≠(v11:Value).ownBlock) u6 x6_1)∧Aside0 (Kd.R k39 39 w' w.heap.size (fun k_=>some k_≠(u6:Value).ownBlock) v11 x11_2)∧Aside0 (w'.heap[gb177]? = some (.cells #[(.slice A0_0 l0_0.length c0_0),(.slice A0_1 l0_1.length c0_1),(.slice A0_2 l0_2.length c0_2),(.slice A0_3 l0_3.length c0_3),(.slice A0_4 l0_4.length c0_4),(.slice A0_5 l0_5.length c0_5)] 81 (0,0)))∧Aside0 (w'.heap[gb178]? = some (.cells #[.bool false,(.slice none 0 0)] 47 (0,0)))∧Aside0 (Below w.heap.size w w'))
     case atStart=>exact ⟨(([]:List (S39))),(0),(by first|rfl|(simp;done)|(simp [*];done)),H',⟨Nat.le_refl _⟩,⟨by (with_reducible repeat (first|apply Kd.R_alloc|apply Kd.R_drewN|apply Kd.R_drew));exact Kd.R_mono HO_6.out (fun _ hk=>(by simp [Value.ownBlock]))⟩,⟨by first|exact Kd.R_nil _ _ _ _ _|exact Kd.N_nil _ _ _ _ _|exact Kd.V_nil _ _ _ _ _|exact Kd.Q_nil _ _ _ _ _|exact Kd.S_nil _ _ _ _ _⟩,⟨by (with_reducible repeat (first|refine blk_drewN ?_ _|refine blk_drew ?_|refine blk_alloc ?_ _));exact BK177.out⟩,⟨by (with_reducible repeat (first|refine blk_drewN ?_ _|refine blk_drew ?_|refine blk_alloc ?_ _));exact BK178.out⟩,⟨by repeat (first|(with_reducible first|exact HB.out|apply below_alloc|apply pw_below_drewN|apply below_drew1|refine below_set ?_ GE177.out|refine below_set ?_ GE178.out)|exact HB.out)⟩⟩
     case round =>
      clear H'
      try clear c1
      try clear p1
      try clear q1
      try clear hx1
      try clear qi1
      try clear p2
      try clear c3
      try clear c4
      try clear c5
      try clear c5b0
      try clear c6
      try clear p6
      try clear c7
      try clear c8
      try clear c10
      try clear c18
      try clear p18
      try clear q18
      try clear hx18
      try clear qi18
      try clear c36
      try clear c37
      try clear c40
      try clear c43
      try clear c43b0
      try clear c44
      try clear c44b0
      try clear c44b1
      try clear c49
      try clear c49b0
      try clear c49b1
      try clear c52
      try clear hcz38_0
      try clear hcz38_1
      try clear hcz38_2
      try clear hcz41_0
      try clear hcz41_1
      try clear hcz41_2
      try clear hcz41_3
      try clear hcz41_4
      try clear hcz41_5
      try clear hfz38_0
      try clear hfz38_1
      try clear hfz38_2
      try clear hfz41_0
      try clear hfz41_1
      try clear hfz41_2
      try clear hfz41_3
      try clear hfz41_4
      try clear hfz41_5
      try clear hx182_0
      try clear hx188_0
      try clear hx188_1
      try clear hx188_2
      try clear hx189_0
      try clear hx189_1
      try clear hx189_2
      try clear p182
      try clear p188
      try clear p189
      try clear q182
      try clear q188
      try clear q189
      obtain ⟨x11_2,x12_2,rfl,HA,HK2,HO_6,HO_11,BK177,BK178,HB⟩:=hrel
      cases gk with
      | zero=>exact absurd HA.out (by simp [cohousingref24_ring.l1])
      | succ k2 =>
       have H:=HA.out
       clear HA
       simp only [cohousingref24_ring.l1] at H
       by_cases c54:x12_2 < (x6_1.length:Int)
       ·
        rw [if_pos c54] at H
        have c54b0:decide (x12_2 < (x6_1.length:Int))=true:=decide_eq_true c54
        clear c54
        by_cases c55:(x6_1.length:Int)=0
        ·
         rw [if_pos c55] at H
         exact absurd H (by simp)
        ·
         rw [if_neg c55] at H
         have c55b0:((x6_1.length:Int) == 0)=false:=beq_eq_false_iff_ne.mpr c55
         have c55b1:((x6_1.length:Int) != 0)=true:=bne_iff_ne.mpr c55
         have c55b2:¬ (x6_1=[]):=fun h_=>c55 (by rw [h_];rfl)
         obtain ⟨ji56,hji56⟩:∃ j_:Int,(Int.tmod (wrap64 ((wrap64 (x7_1 - x12_2)) + (x6_1.length:Int))) (x6_1.length:Int))=j_:=⟨_,rfl⟩
         replace H:(if 0≤(ji56) then (if (ji56) < (x6_1.length:Int) then (if x11_2.length < 5864062014805 then (cohousingref24_ring.l1 k2 x6_1 x7_1 (x11_2 ++ [(⟨(rd_T39 x6_1 (ji56)).f0,(rd_T39 x6_1 (ji56)).f1,(rd_T39 x6_1 (ji56)).f2⟩:S39)]) (wrap64 (x12_2 + 1))) else (none)) else (none)) else (none))=some (r1,r2,r3):=by first|(rw [hji56] at H;exact H)|(simp only [hji56] at H ⊢;exact H)
         by_cases c57:0≤(ji56)
         ·
          rw [if_pos c57] at H
          have c57b0:decide (0≤(ji56))=true:=decide_eq_true c57
          clear c57
          by_cases c58:(ji56) < (x6_1.length:Int)
          ·
           rw [if_pos c58] at H
           have c58b0:decide ((ji56) < (x6_1.length:Int))=true:=decide_eq_true c58
           clear c58
           by_cases c59:x11_2.length < 5864062014805
           ·
            rw [if_pos c59] at H
            have LMc59:=zF c59
            clear c59
            obtain ⟨y191,hy191⟩:∃ y_:List (S39),y_=(x11_2 ++ [(⟨(rd_T39 x6_1 (ji56)).f0,(rd_T39 x6_1 (ji56)).f1,(rd_T39 x6_1 (ji56)).f2⟩:S39)]):=⟨_,rfl⟩
            replace H:(cohousingref24_ring.l1 k2 x6_1 x7_1 y191 (wrap64 (x12_2 + 1)))=some (r1,r2,r3):=by first|(rw [hy191];with_reducible exact H)|(have H2_:=(Option.bind_some _ _).symm.trans H;rw [hy191];with_reducible exact H2_)|(have H2_:=(Option.bind_some _ _).symm.trans H;with_reducible exact H2_)|with_reducible exact H|(rw [hy191];exact H)|exact H
            have Ny191:=zF hy191
            clear hy191
            have H':=zF H
            clear H
            obtain ⟨Ao60,co60,eo60⟩:=Kd.R_slice HO_6.out
            subst eo60
            have p190:0≤((ji56):Int):=zE (by first|(with_reducible assumption)|assumption)
            have q190:(ji56) < (x6_1.length:Int):=zE (by first|(with_reducible assumption)|assumption)
            obtain ⟨ad190,e190,hx190_0,hx190_1,hx190_2⟩:=at_T39 (Kd.R_reads' HO_6.out).2.2 (ji56) p190 q190
            cases e190
            replace p190:=eq_true p190
            replace q190:=eq_true q190
            go_wp2_with (first|((with_reducible refine gate_builtin (b:=.append) (xs:=#[.tmp 72,.tmp 85]) rfl ?_);at_builtin;refine Kd.R_append k39 (w0:=w) w.heap.size rfl (.tmp 72) (.tmp 85) 29 39 (.agg #[(.int .i64 0),(.int .i64 0),(.int .i64 0)]) 24 rfl Try.underlying29 info39 rfl (by decide) (by omega) u11 x11_2 (⟨(rd_T39 x6_1 (ji56)).f0,(rd_T39 x6_1 (ji56)).f1,(rd_T39 x6_1 (ji56)).f2⟩:S39) [.int .i64 ((rd_T39 x6_1 (ji56)).f0),.int .i64 ((rd_T39 x6_1 (ji56)).f1),.int .i64 ((rd_T39 x6_1 (ji56)).f2)] (fun k_=>some k_≠(.slice (some ad190) x6_1.length co60:Value).ownBlock) (fun _=>False) rfl rfl ?aP (fun _ hk=>hk.elim) ?aF ?aO ?aB ?aS ?aL ?_;(case aP=>exact k39_mkM _ _ _ (⟨(rd_T39 x6_1 (ji56)).f0,(rd_T39 x6_1 (ji56)).f1,(rd_T39 x6_1 (ji56)).f2⟩:S39));(case aB=>exact (by repeat (first|(with_reducible first|exact HB.out|apply below_alloc|apply pw_below_drewN|apply below_drew1|refine below_set ?_ GE177.out|refine below_set ?_ GE178.out)|exact HB.out)));(case aF=>exact (fun k_ hk=>Kd.fresh' (Kd.R_lt (by (with_reducible repeat (first|apply Kd.R_alloc|apply Kd.R_drewN|apply Kd.R_drew));exact HO_6.out)) k_ hk));(case aO=>exact (by (with_reducible repeat (first|apply Kd.R_alloc|apply Kd.R_drewN|apply Kd.R_drew));exact HO_11.out));(case aS=>exact (below_size (by repeat (first|(with_reducible first|exact HB.out|apply below_alloc|apply pw_below_drewN|apply below_drew1|refine below_set ?_ GE177.out|refine below_set ?_ GE178.out)|exact HB.out))));(case aL=>have:=LMc59.out;omega);intro v192 w61 ho hb hg hat;rw [← Ny191.out] at ho;have n0_:=zF (Kd.R_after (ok:=(fun _=>True)) (by (with_reducible repeat (first|apply Kd.R_alloc|apply Kd.R_drewN|apply Kd.R_drew));exact Kd.R_mono HO_6.out (fun _ hk=>⟨trivial,hk⟩)) hg hat);have n1_:=zF (blk_grown (g:=gb177) (o:=.cells #[.slice A0_0 l0_0.length c0_0,.slice A0_1 l0_1.length c0_1,.slice A0_2 l0_2.length c0_2,.slice A0_3 l0_3.length c0_3,.slice A0_4 l0_4.length c0_4,.slice A0_5 l0_5.length c0_5] 81 (0,0)) (by (with_reducible repeat (first|refine blk_drewN ?_ _|refine blk_drew ?_|refine blk_alloc ?_ _));exact BK177.out) hg (Kd.R_ne HO_11.out BK177.out (by decide)));have n2_:=zF (blk_grown (g:=gb178) (o:=.cells #[.bool false,.slice none 0 0] 47 (0,0)) (by (with_reducible repeat (first|refine blk_drewN ?_ _|refine blk_drew ?_|refine blk_alloc ?_ _));exact BK178.out) hg (Kd.R_ne HO_11.out BK178.out (by decide)));have n3_:=zF (hb);have n4_:=zF (ho);clear HO_6;clear BK177;clear BK178;clear HB;clear HO_11;have HO_6:=n0_;have BK177:=n1_;have BK178:=n2_;have HB:=n3_;have HO193:=n4_;clear n0_ n1_ n2_ n3_ n4_;clear ho hb hg hat))
            go_roundg k2
            case measure=>have:=HK1.out;have:=HK2.out;omega
            case rel=>exact ⟨(y191),(wrap64 (x12_2 + 1)),(by first|rfl|(simp;done)|(simp [*];done)),H',⟨by have:=HK1.out;have:=HK2.out;omega⟩,⟨by (with_reducible repeat (first|apply Kd.R_alloc|apply Kd.R_drewN|apply Kd.R_drew));exact Kd.R_mono HO_6.out (fun _ hk=>hk.2)⟩,⟨by (with_reducible repeat (first|apply Kd.R_alloc|apply Kd.R_drewN|apply Kd.R_drew));exact HO193.out⟩,⟨by (with_reducible repeat (first|refine blk_drewN ?_ _|refine blk_drew ?_|refine blk_alloc ?_ _));exact BK177.out⟩,⟨by (with_reducible repeat (first|refine blk_drewN ?_ _|refine blk_drew ?_|refine blk_alloc ?_ _));exact BK178.out⟩,⟨by repeat (first|(with_reducible first|exact HB.out|apply below_alloc|apply pw_below_drewN|apply below_drew1|refine below_set ?_ GE177.out|refine below_set ?_ GE178.out)|exact HB.out)⟩⟩
           ·
            rw [if_neg c59] at H
            exact absurd H (by simp)
          ·
           rw [if_neg c58] at H
           exact absurd H (by simp)
         ·
          rw [if_neg c57] at H
          exact absurd H (by simp)
       ·
        rw [if_neg c54] at H
        have c54b0:decide (x12_2 < (x6_1.length:Int))=false:=decide_eq_false c54
        clear c54
        simp only [Option.some.injEq,Prod.mk.injEq] at H
        obtain ⟨rfl,rfl,rfl⟩:=H
        obtain ⟨Ao62,co62,eo62⟩:=Kd.R_slice HO_6.out
        subst eo62
        obtain ⟨Ao63,co63,eo63⟩:=Kd.R_slice HO_11.out
        subst eo63
        have hnb64:=NB178_177.out
        have hnc64:=NB177_178.out
        have hcz65_0:wr.cell? ⟨gb178,0,none⟩=some (.bool false):=(blk_cell BK178.out 0).trans rfl
        have hcz65_1:wr.cell? ⟨gb178,1,none⟩=some (.slice none 0 0):=(blk_cell BK178.out 1).trans rfl
        have hfz65_0:=blk_frozen BK178.out 0
        have hfz65_1:=blk_frozen BK178.out 1
        go_wp2
        refine bodyPost_ret (results_ct rfl _ _ gb178 47 #[.bool true,.slice Ao63 x11_2.length co63] (0,0) _ rfl (by (with_reducible repeat (first|refine blk_drewN ?_ _|refine blk_drew ?_|refine blk_alloc ?_ _));refine blk_put (cs:=#[.bool true,.slice none 0 0]) ?_ 1 _ rfl;(with_reducible repeat (first|refine blk_drewN ?_ _|refine blk_drew ?_|refine blk_alloc ?_ _));refine blk_put (cs:=#[.bool false,.slice none 0 0]) ?_ 0 _ rfl;(with_reducible repeat (first|refine blk_drewN ?_ _|refine blk_drew ?_|refine blk_alloc ?_ _));exact BK178.out) Try.underlying47 rfl (by kernel_rfl)) rfl ?_
        exact ⟨_,by first|rfl|(simp [errW_none,errW_some] <;> rfl)|(simp [*,errW_none,errW_some] <;> rfl),by (with_reducible repeat (first|apply Kd.R_alloc|apply Kd.R_drewN|apply Kd.R_drew));exact Kd.R_mono (Kd.R_far (p:=⟨gb178,1,none⟩) (Kd.R_far (p:=⟨gb178,0,none⟩) (Kd.R_types HO_11.out BK178.out (by decide)) (fun _ hk=>hk.2) (.bool true)) (fun _ hk=>hk.2) (.slice Ao63 x11_2.length co63)) (fun _ hk=>trivial),by repeat (first|(with_reducible first|exact HB.out|apply below_alloc|apply pw_below_drewN|apply below_drew1|refine below_set ?_ GE177.out|refine below_set ?_ GE178.out)|exact HB.out)⟩

end Go.Proofs.Ytjgnkhfgmpaljaa.P
