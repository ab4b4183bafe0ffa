/- Lemmas, readings of functions as plain Lean functions and contracts of functions of the program, for the claimed theorem; each one's conditions stand in its statement. -/
import Derived.Test.YtjgnkhfgmpaljaaQTD7
namespace Go.Proofs.Ytjgnkhfgmpaljaa.P
open Go.RowKit Go.Proofs.YtjgnkhfgmpaljaaW.PrintWords Go.Proofs.YtjgnkhfgmpaljaaW.PrintLast Go.Proofs.YtjgnkhfgmpaljaaW.PrintMore
attribute [local go_sem] max2_int min2_int max_two min_two max_three min_three max_four min_four   -- for this text's walks alone
set_option linter.unusedVariables false
set_option linter.unusedSimpArgs false

mutual
def cohousingref23_Valid.j0:Nat→Bool→List (S53)→List (S41)→Option (Bool)
 | 0,_,_,_=>none
 | k + 1,x20,x118000,x118001=>if x20=true then (some false) else (cohousingref23_Valid.l0 k 0 x118000 x118001)
def cohousingref23_Valid.l0:Nat→Int→List (S53)→List (S41)→Option (Bool)
 | 0,_,_,_=>none
 | k + 1,x4,x118000,x118001=>if x4 < (x118001.length:Int) then (if 0≤x4 then (if ((rd_T41 x118001 x4).f0) < 1 then (cohousingref23_Valid.j2 k x4 true x118000 x118001 ((rd_T41 x118001 x4).f0) ((rd_T41 x118001 x4).f1) ((rd_T41 x118001 x4).f2)) else (if ((rd_T41 x118001 x4).f0) > 64 then (cohousingref23_Valid.j2 k x4 true x118000 x118001 ((rd_T41 x118001 x4).f0) ((rd_T41 x118001 x4).f1) ((rd_T41 x118001 x4).f2)) else (if x4 > 0 then (if 0≤(wrap64 (x4 - 1)) then (if (wrap64 (x4 - 1)) < (x118001.length:Int) then (cohousingref23_Valid.j2 k x4 (decide (((rd_T41 x118001 x4).f0)≤((rd_T41 x118001 (wrap64 (x4 - 1))).f0))) x118000 x118001 ((rd_T41 x118001 x4).f0) ((rd_T41 x118001 x4).f1) ((rd_T41 x118001 x4).f2)) else (none)) else (none)) else (cohousingref23_Valid.j2 k x4 false x118000 x118001 ((rd_T41 x118001 x4).f0) ((rd_T41 x118001 x4).f1) ((rd_T41 x118001 x4).f2))))) else (none)) else (some true)
def cohousingref23_Valid.j2:Nat→Int→Bool→List (S53)→List (S41)→Int→Int→List Int→Option (Bool)
 | 0,_,_,_,_,_,_,_=>none
 | k + 1,x4,x56,x118000,x118001,x121000,x121001,x121002=>if x56=true then (some false) else ((cohousingref23_Has.f k x118000 x121001).bind fun t122=>(if x121001=0 then (cohousingref23_Valid.j3 k x4 false x118000 x118001 x121000 x121001 x121002) else (cohousingref23_Valid.j3 k x4 (!t122) x118000 x118001 x121000 x121001 x121002)))
def cohousingref23_Valid.j3:Nat→Int→Bool→List (S53)→List (S41)→Int→Int→List Int→Option (Bool)
 | 0,_,_,_,_,_,_,_=>none
 | k + 1,x4,x68,x118000,x118001,x121000,x121001,x121002=>if x68=true then (some false) else (cohousingref23_Valid.l1 k x4 0 x118000 x118001 x121000 x121001 x121002)
def cohousingref23_Valid.l1:Nat→Int→Int→List (S53)→List (S41)→Int→Int→List Int→Option (Bool)
 | 0,_,_,_,_,_,_,_=>none
 | k + 1,x4,x7,x118000,x118001,x121000,x121001,x121002=>if x7 < x4 then (if x121001=0 then (cohousingref23_Valid.l1 k x4 (wrap64 (x7 + 1)) x118000 x118001 x121000 x121001 x121002) else (if 0≤x7 then (if x7 < (x118001.length:Int) then (if ((rd_T41 x118001 x7).f1)=x121001 then (some false) else (cohousingref23_Valid.l1 k x4 (wrap64 (x7 + 1)) x118000 x118001 x121000 x121001 x121002)) else (none)) else (none))) else (cohousingref23_Valid.l2 k x4 0 x118000 x118001 x121000 x121001 x121002)
def cohousingref23_Valid.l2:Nat→Int→Int→List (S53)→List (S41)→Int→Int→List Int→Option (Bool)
 | 0,_,_,_,_,_,_,_=>none
 | k + 1,x4,x8,x118000,x118001,x121000,x121001,x121002=>if x8 < (x121002.length:Int) then (if 0≤x8 then ((cohousingref23_Has.f k x118000 (rd x121002 x8)).bind fun t125=>(if t125=true then ((cohousingref23_In.f k x121002 (rd x121002 x8)).bind fun t127=>(if t127=x8 then (cohousingref23_Valid.l2 k x4 (wrap64 (x8 + 1)) x118000 x118001 x121000 x121001 x121002) else (some false))) else (some false))) else (none)) else (cohousingref23_Valid.l0 k (wrap64 (x4 + 1)) x118000 x118001)
end
def cohousingref23_Valid.f (k:Nat) (l0_0:List (S53)) (l0_1:List (S41)):Option (Bool):=(cohousingref23_Flats.f k l0_0).bind fun t118=>(if t118=true then (cohousingref23_Valid.j0 k (decide ((l0_1.length:Int) > 64)) l0_0 l0_1) else (cohousingref23_Valid.j0 k true l0_0 l0_1))
theorem cohousingref23_Valid.mono_l:∀ k,(∀ y0 y1 y2,LeO (cohousingref23_Valid.j0 k y0 y1 y2) (cohousingref23_Valid.j0 (k + 1) y0 y1 y2))∧(∀ y0 y1 y2,LeO (cohousingref23_Valid.l0 k y0 y1 y2) (cohousingref23_Valid.l0 (k + 1) y0 y1 y2))∧(∀ y0 y1 y2 y3 y4 y5 y6,LeO (cohousingref23_Valid.j2 k y0 y1 y2 y3 y4 y5 y6) (cohousingref23_Valid.j2 (k + 1) y0 y1 y2 y3 y4 y5 y6))∧(∀ y0 y1 y2 y3 y4 y5 y6,LeO (cohousingref23_Valid.j3 k y0 y1 y2 y3 y4 y5 y6) (cohousingref23_Valid.j3 (k + 1) y0 y1 y2 y3 y4 y5 y6))∧(∀ y0 y1 y2 y3 y4 y5 y6,LeO (cohousingref23_Valid.l1 k y0 y1 y2 y3 y4 y5 y6) (cohousingref23_Valid.l1 (k + 1) y0 y1 y2 y3 y4 y5 y6))∧(∀ y0 y1 y2 y3 y4 y5 y6,LeO (cohousingref23_Valid.l2 k y0 y1 y2 y3 y4 y5 y6) (cohousingref23_Valid.l2 (k + 1) y0 y1 y2 y3 y4 y5 y6))
 | 0=>⟨fun _ _ _ r h=>by simp [cohousingref23_Valid.j0] at h,fun _ _ _ r h=>by simp [cohousingref23_Valid.l0] at h,fun _ _ _ _ _ _ _ r h=>by simp [cohousingref23_Valid.j2] at h,fun _ _ _ _ _ _ _ r h=>by simp [cohousingref23_Valid.j3] at h,fun _ _ _ _ _ _ _ r h=>by simp [cohousingref23_Valid.l1] at h,fun _ _ _ _ _ _ _ r h=>by simp [cohousingref23_Valid.l2] at h⟩
 | k + 1=>by
  obtain ⟨ih0,ih1,ih2,ih3,ih4,ih5⟩:=cohousingref23_Valid.mono_l k
  refine ⟨?_,?_,?_,?_,?_,?_⟩
  ·
   intro y0 y1 y2
   unfold cohousingref23_Valid.j0
   repeat' first
   | (with_reducible exact ih0 _ _ _)
   | (with_reducible exact ih1 _ _ _)
   | (with_reducible exact ih2 _ _ _ _ _ _ _)
   | (with_reducible exact ih3 _ _ _ _ _ _ _)
   | (with_reducible exact ih4 _ _ _ _ _ _ _)
   | (with_reducible exact ih5 _ _ _ _ _ _ _)
   | (with_reducible exact cohousingref23_Flats.mono _ _)
   | (with_reducible exact cohousingref23_Has.mono _ _ _)
   | (with_reducible exact cohousingref23_In.mono _ _ _)
   | (with_reducible exact LeO.refl _)
   | (with_reducible exact LeO.none _)
   | (with_reducible refine LeO.ite ?_ ?_)
   | (with_reducible refine LeO.bind ?_ (fun _=>?_))
   | exact ih0 _ _ _
   | exact ih1 _ _ _
   | exact ih2 _ _ _ _ _ _ _
   | exact ih3 _ _ _ _ _ _ _
   | exact ih4 _ _ _ _ _ _ _
   | exact ih5 _ _ _ _ _ _ _
   | exact cohousingref23_Flats.mono _ _
   | exact cohousingref23_Has.mono _ _ _
   | exact cohousingref23_In.mono _ _ _
   | exact LeO.none _
   | refine LeO.ite ?_ ?_
   | refine LeO.bind ?_ (fun _=>?_)
  ·
   intro y0 y1 y2
   unfold cohousingref23_Valid.l0
   repeat' first
   | (with_reducible exact ih0 _ _ _)
   | (with_reducible exact ih1 _ _ _)
   | (with_reducible exact ih2 _ _ _ _ _ _ _)
   | (with_reducible exact ih3 _ _ _ _ _ _ _)
   | (with_reducible exact ih4 _ _ _ _ _ _ _)
   | (with_reducible exact ih5 _ _ _ _ _ _ _)
   | (with_reducible exact cohousingref23_Flats.mono _ _)
   | (with_reducible exact cohousingref23_Has.mono _ _ _)
   | (with_reducible exact cohousingref23_In.mono _ _ _)
   | (with_reducible exact LeO.refl _)
   | (with_reducible exact LeO.none _)
   | (with_reducible refine LeO.ite ?_ ?_)
   | (with_reducible refine LeO.bind ?_ (fun _=>?_))
   | exact ih0 _ _ _
   | exact ih1 _ _ _
   | exact ih2 _ _ _ _ _ _ _
   | exact ih3 _ _ _ _ _ _ _
   | exact ih4 _ _ _ _ _ _ _
   | exact ih5 _ _ _ _ _ _ _
   | exact cohousingref23_Flats.mono _ _
   | exact cohousingref23_Has.mono _ _ _
   | exact cohousingref23_In.mono _ _ _
   | exact LeO.none _
   | refine LeO.ite ?_ ?_
   | refine LeO.bind ?_ (fun _=>?_)
  ·
   intro y0 y1 y2 y3 y4 y5 y6
   unfold cohousingref23_Valid.j2
   repeat' first
   | (with_reducible exact ih0 _ _ _)
   | (with_reducible exact ih1 _ _ _)
   | (with_reducible exact ih2 _ _ _ _ _ _ _)
   | (with_reducible exact ih3 _ _ _ _ _ _ _)
   | (with_reducible exact ih4 _ _ _ _ _ _ _)
   | (with_reducible exact ih5 _ _ _ _ _ _ _)
   | (with_reducible exact cohousingref23_Flats.mono _ _)
   | (with_reducible exact cohousingref23_Has.mono _ _ _)
   | (with_reducible exact cohousingref23_In.mono _ _ _)
   | (with_reducible exact LeO.refl _)
   | (with_reducible exact LeO.none _)
   | (with_reducible refine LeO.ite ?_ ?_)
   | (with_reducible refine LeO.bind ?_ (fun _=>?_))
   | exact ih0 _ _ _
   | exact ih1 _ _ _
   | exact ih2 _ _ _ _ _ _ _
   | exact ih3 _ _ _ _ _ _ _
   | exact ih4 _ _ _ _ _ _ _
   | exact ih5 _ _ _ _ _ _ _
   | exact cohousingref23_Flats.mono _ _
   | exact cohousingref23_Has.mono _ _ _
   | exact cohousingref23_In.mono _ _ _
   | exact LeO.none _
   | refine LeO.ite ?_ ?_
   | refine LeO.bind ?_ (fun _=>?_)
  ·
   intro y0 y1 y2 y3 y4 y5 y6
   unfold cohousingref23_Valid.j3
   repeat' first
   | (with_reducible exact ih0 _ _ _)
   | (with_reducible exact ih1 _ _ _)
   | (with_reducible exact ih2 _ _ _ _ _ _ _)
   | (with_reducible exact ih3 _ _ _ _ _ _ _)
   | (with_reducible exact ih4 _ _ _ _ _ _ _)
   | (with_reducible exact ih5 _ _ _ _ _ _ _)
   | (with_reducible exact cohousingref23_Flats.mono _ _)
   | (with_reducible exact cohousingref23_Has.mono _ _ _)
   | (with_reducible exact cohousingref23_In.mono _ _ _)
   | (with_reducible exact LeO.refl _)
   | (with_reducible exact LeO.none _)
   | (with_reducible refine LeO.ite ?_ ?_)
   | (with_reducible refine LeO.bind ?_ (fun _=>?_))
   | exact ih0 _ _ _
   | exact ih1 _ _ _
   | exact ih2 _ _ _ _ _ _ _
   | exact ih3 _ _ _ _ _ _ _
   | exact ih4 _ _ _ _ _ _ _
   | exact ih5 _ _ _ _ _ _ _
   | exact cohousingref23_Flats.mono _ _
   | exact cohousingref23_Has.mono _ _ _
   | exact cohousingref23_In.mono _ _ _
   | exact LeO.none _
   | refine LeO.ite ?_ ?_
   | refine LeO.bind ?_ (fun _=>?_)
  ·
   intro y0 y1 y2 y3 y4 y5 y6
   unfold cohousingref23_Valid.l1
   repeat' first
   | (with_reducible exact ih0 _ _ _)
   | (with_reducible exact ih1 _ _ _)
   | (with_reducible exact ih2 _ _ _ _ _ _ _)
   | (with_reducible exact ih3 _ _ _ _ _ _ _)
   | (with_reducible exact ih4 _ _ _ _ _ _ _)
   | (with_reducible exact ih5 _ _ _ _ _ _ _)
   | (with_reducible exact cohousingref23_Flats.mono _ _)
   | (with_reducible exact cohousingref23_Has.mono _ _ _)
   | (with_reducible exact cohousingref23_In.mono _ _ _)
   | (with_reducible exact LeO.refl _)
   | (with_reducible exact LeO.none _)
   | (with_reducible refine LeO.ite ?_ ?_)
   | (with_reducible refine LeO.bind ?_ (fun _=>?_))
   | exact ih0 _ _ _
   | exact ih1 _ _ _
   | exact ih2 _ _ _ _ _ _ _
   | exact ih3 _ _ _ _ _ _ _
   | exact ih4 _ _ _ _ _ _ _
   | exact ih5 _ _ _ _ _ _ _
   | exact cohousingref23_Flats.mono _ _
   | exact cohousingref23_Has.mono _ _ _
   | exact cohousingref23_In.mono _ _ _
   | exact LeO.none _
   | refine LeO.ite ?_ ?_
   | refine LeO.bind ?_ (fun _=>?_)
  ·
   intro y0 y1 y2 y3 y4 y5 y6
   unfold cohousingref23_Valid.l2
   repeat' first
   | (with_reducible exact ih0 _ _ _)
   | (with_reducible exact ih1 _ _ _)
   | (with_reducible exact ih2 _ _ _ _ _ _ _)
   | (with_reducible exact ih3 _ _ _ _ _ _ _)
   | (with_reducible exact ih4 _ _ _ _ _ _ _)
   | (with_reducible exact ih5 _ _ _ _ _ _ _)
   | (with_reducible exact cohousingref23_Flats.mono _ _)
   | (with_reducible exact cohousingref23_Has.mono _ _ _)
   | (with_reducible exact cohousingref23_In.mono _ _ _)
   | (with_reducible exact LeO.refl _)
   | (with_reducible exact LeO.none _)
   | (with_reducible refine LeO.ite ?_ ?_)
   | (with_reducible refine LeO.bind ?_ (fun _=>?_))
   | exact ih0 _ _ _
   | exact ih1 _ _ _
   | exact ih2 _ _ _ _ _ _ _
   | exact ih3 _ _ _ _ _ _ _
   | exact ih4 _ _ _ _ _ _ _
   | exact ih5 _ _ _ _ _ _ _
   | exact cohousingref23_Flats.mono _ _
   | exact cohousingref23_Has.mono _ _ _
   | exact cohousingref23_In.mono _ _ _
   | exact LeO.none _
   | refine LeO.ite ?_ ?_
   | refine LeO.bind ?_ (fun _=>?_)
theorem cohousingref23_Valid.mono:∀ a0 a1 k,LeO (cohousingref23_Valid.f k a0 a1) (cohousingref23_Valid.f (k + 1) a0 a1):=by
 intro a0 a1 k
 obtain ⟨ih0,ih1,ih2,ih3,ih4,ih5⟩:=cohousingref23_Valid.mono_l k
 unfold cohousingref23_Valid.f
 repeat' first
   | (with_reducible exact ih0 _ _ _)
   | (with_reducible exact ih1 _ _ _)
   | (with_reducible exact ih2 _ _ _ _ _ _ _)
   | (with_reducible exact ih3 _ _ _ _ _ _ _)
   | (with_reducible exact ih4 _ _ _ _ _ _ _)
   | (with_reducible exact ih5 _ _ _ _ _ _ _)
   | (with_reducible exact cohousingref23_Flats.mono _ _)
   | (with_reducible exact cohousingref23_Has.mono _ _ _)
   | (with_reducible exact cohousingref23_In.mono _ _ _)
   | (with_reducible exact LeO.refl _)
   | (with_reducible exact LeO.none _)
   | (with_reducible refine LeO.ite ?_ ?_)
   | (with_reducible refine LeO.bind ?_ (fun _=>?_))
   | exact ih0 _ _ _
   | exact ih1 _ _ _
   | exact ih2 _ _ _ _ _ _ _
   | exact ih3 _ _ _ _ _ _ _
   | exact ih4 _ _ _ _ _ _ _
   | exact ih5 _ _ _ _ _ _ _
   | exact cohousingref23_Flats.mono _ _
   | exact cohousingref23_Has.mono _ _ _
   | exact cohousingref23_In.mono _ _ _
   | exact LeO.none _
   | refine LeO.ite ?_ ?_
   | refine LeO.bind ?_ (fun _=>?_)
set_option maxHeartbeats 8000000 in
set_option maxRecDepth 100000 in
theorem cohousingref23_Valid.calls (k:Nat) (A0_0:Option Addr) (c0_0:Nat) (l0_0:List (S53)) (A0_1:Option Addr) (c0_1:Nat) (l0_1:List (S41)) (r:Bool) (w:World) (hr0_0:Kd.C k53 w A0_0 l0_0.length l0_0) (hc0_0:l0_0.length≤c0_0) (hr0_1:Kd.C k41 w A0_1 l0_1.length l0_1) (hc0_1:l0_1.length≤c0_1) (h:cohousingref23_Valid.f k l0_0 l0_1=some r) :
  Calls Try.prog 29 #[.agg #[.slice A0_0 l0_0.length c0_0,.slice A0_1 l0_1.length c0_1]] w fun e w'=>e = .returned (.bool r)∧Below w.heap.size w w':=by
 have hu25:=Try.underlying25
 have hu41:=Try.underlying41
 have HR0_0:=zF hr0_0
 have HC0_0:=zF hc0_0
 clear hr0_0 hc0_0
 have HR0_1:=zF hr0_1
 have HC0_1:=zF hc0_1
 clear hr0_1 hc0_1
 have HB:=zF (Below.refl w.heap.size w)
 have H:((cohousingref23_Flats.f k l0_0).bind fun t118=>(if t118=true then (cohousingref23_Valid.j0 k (decide ((l0_1.length:Int) > 64)) l0_0 l0_1) else (cohousingref23_Valid.j0 k true l0_0 l0_1)))=some r:=h
 clear h
 replace H:=Option.bind_eq_some_iff.mp H
 obtain ⟨t118,A20,H⟩:=H
 replace H:(if t118=true then (cohousingref23_Valid.j0 k (decide ((l0_1.length:Int) > 64)) l0_0 l0_1) else (cohousingref23_Valid.j0 k true l0_0 l0_1))=some r:=H
 have A2:=zF A20
 clear A20
 have HC3:=zF H
 clear H
 go_enter Try.func29,Try.ntmps29
 go_upto_region 2 with (first|((with_reducible refine gate_dst (N:=1) rfl ?_);(try (refine gate_guard (by rfl) ?_;dsimp only));refine box_event ?hg (N:=1) ?hd (cs:=#[.slice A0_0 l0_0.length c0_0,.slice A0_1 l0_1.length c0_1]) (t:=25) ?hr ?_;(case hd=>rfl);(case hg=>rfl);(case hr=>first|(go_simp;done)|(go_simp;rfl));intro gb117 hg w4 hbox hb;have n0_:=zF (below_step (by repeat (first|(with_reducible first|exact HB.out|apply below_alloc|apply pw_below_drewN|apply below_drew1)|exact HB.out)) hb);have n1_:=zF (hbox);have n2_:=zF ((by rw [hg];exact (below_size (by repeat (first|(with_reducible first|exact HB.out|apply below_alloc|apply pw_below_drewN|apply below_drew1)|exact HB.out))):w.heap.size≤gb117));have n3_:=zF ((by rw [hg];exact (below_size (by repeat (first|(with_reducible first|exact HB.out|apply below_alloc|apply pw_below_drewN|apply below_drew1)|exact HB.out))):w.heap.size≤gb117));clear HB;have HB:=n0_;have BK117:=n1_;have GW117:=n2_;have GE117:=n3_;clear n0_ n1_ n2_ n3_;clear hb hbox hg;have hcz5_0:w4.cell? ⟨gb117,0,none⟩=some (.slice A0_0 l0_0.length c0_0):=(blk_cell BK117.out 0).trans rfl;have hcz5_1:w4.cell? ⟨gb117,1,none⟩=some (.slice A0_1 l0_1.length c0_1):=(blk_cell BK117.out 1).trans rfl;have hfz5_0:=blk_frozen BK117.out 0;have hfz5_1:=blk_frozen BK117.out 1)|(go_at_call 53;(with_reducible refine (cohousingref23_Flats.calls k _ _ l0_0 t118 _ ?side1 ?side2 A2.out).mono ?_);(case side1=>repeat (first|exact (Kd.C_below HR0_0.out HB.out)|(with_reducible refine Kd.C_alloc ?_ _)|(with_reducible refine Kd.C_drewN ?_ _)|(with_reducible refine Kd.C_drew ?_)));(case side2=>exact HC0_0.out);rintro e w' ⟨rfl,⟨nd,rfl⟩⟩;(try first|exact ⟨rfl,_,World.drewN_drewN _ _ _⟩|exact ⟨rfl,_,Eq.trans (World.drewN_drewN _ _ _) (congrArg (World.drewN _) (Nat.add_assoc _ _ _))⟩)))
 repeat (go_quiet (first|((with_reducible refine gate_dst (N:=1) rfl ?_);(try (refine gate_guard (by rfl) ?_;dsimp only));refine box_event ?hg (N:=1) ?hd (cs:=#[.slice A0_0 l0_0.length c0_0,.slice A0_1 l0_1.length c0_1]) (t:=25) ?hr ?_;(case hd=>rfl);(case hg=>rfl);(case hr=>first|(go_simp;done)|(go_simp;rfl));intro gb117 hg w4 hbox hb;have n0_:=zF (below_step (by repeat (first|(with_reducible first|exact HB.out|apply below_alloc|apply pw_below_drewN|apply below_drew1)|exact HB.out)) hb);have n1_:=zF (hbox);have n2_:=zF ((by rw [hg];exact (below_size (by repeat (first|(with_reducible first|exact HB.out|apply below_alloc|apply pw_below_drewN|apply below_drew1)|exact HB.out))):w.heap.size≤gb117));have n3_:=zF ((by rw [hg];exact (below_size (by repeat (first|(with_reducible first|exact HB.out|apply below_alloc|apply pw_below_drewN|apply below_drew1)|exact HB.out))):w.heap.size≤gb117));clear HB;have HB:=n0_;have BK117:=n1_;have GW117:=n2_;have GE117:=n3_;clear n0_ n1_ n2_ n3_;clear hb hbox hg;have hcz5_0:w4.cell? ⟨gb117,0,none⟩=some (.slice A0_0 l0_0.length c0_0):=(blk_cell BK117.out 0).trans rfl;have hcz5_1:w4.cell? ⟨gb117,1,none⟩=some (.slice A0_1 l0_1.length c0_1):=(blk_cell BK117.out 1).trans rfl;have hfz5_0:=blk_frozen BK117.out 0;have hfz5_1:=blk_frozen BK117.out 1)|(go_at_call 53;(with_reducible refine (cohousingref23_Flats.calls k _ _ l0_0 t118 _ ?side1 ?side2 A2.out).mono ?_);(case side1=>repeat (first|exact (Kd.C_below HR0_0.out HB.out)|(with_reducible refine Kd.C_alloc ?_ _)|(with_reducible refine Kd.C_drewN ?_ _)|(with_reducible refine Kd.C_drew ?_)));(case side2=>exact HC0_0.out);rintro e w' ⟨rfl,⟨nd,rfl⟩⟩;(try first|exact ⟨rfl,_,World.drewN_drewN _ _ _⟩|exact ⟨rfl,_,Eq.trans (World.drewN_drewN _ _ _) (congrArg (World.drewN _) (Nat.add_assoc _ _ _))⟩)));go_upto_region 2 with (first|((with_reducible refine gate_dst (N:=1) rfl ?_);(try (refine gate_guard (by rfl) ?_;dsimp only));refine box_event ?hg (N:=1) ?hd (cs:=#[.slice A0_0 l0_0.length c0_0,.slice A0_1 l0_1.length c0_1]) (t:=25) ?hr ?_;(case hd=>rfl);(case hg=>rfl);(case hr=>first|(go_simp;done)|(go_simp;rfl));intro gb117 hg w4 hbox hb;have n0_:=zF (below_step (by repeat (first|(with_reducible first|exact HB.out|apply below_alloc|apply pw_below_drewN|apply below_drew1)|exact HB.out)) hb);have n1_:=zF (hbox);have n2_:=zF ((by rw [hg];exact (below_size (by repeat (first|(with_reducible first|exact HB.out|apply below_alloc|apply pw_below_drewN|apply below_drew1)|exact HB.out))):w.heap.size≤gb117));have n3_:=zF ((by rw [hg];exact (below_size (by repeat (first|(with_reducible first|exact HB.out|apply below_alloc|apply pw_below_drewN|apply below_drew1)|exact HB.out))):w.heap.size≤gb117));clear HB;have HB:=n0_;have BK117:=n1_;have GW117:=n2_;have GE117:=n3_;clear n0_ n1_ n2_ n3_;clear hb hbox hg;have hcz5_0:w4.cell? ⟨gb117,0,none⟩=some (.slice A0_0 l0_0.length c0_0):=(blk_cell BK117.out 0).trans rfl;have hcz5_1:w4.cell? ⟨gb117,1,none⟩=some (.slice A0_1 l0_1.length c0_1):=(blk_cell BK117.out 1).trans rfl;have hfz5_0:=blk_frozen BK117.out 0;have hfz5_1:=blk_frozen BK117.out 1)|(go_at_call 53;(with_reducible refine (cohousingref23_Flats.calls k _ _ l0_0 t118 _ ?side1 ?side2 A2.out).mono ?_);(case side1=>repeat (first|exact (Kd.C_below HR0_0.out HB.out)|(with_reducible refine Kd.C_alloc ?_ _)|(with_reducible refine Kd.C_drewN ?_ _)|(with_reducible refine Kd.C_drew ?_)));(case side2=>exact HC0_0.out);rintro e w' ⟨rfl,⟨nd,rfl⟩⟩;(try first|exact ⟨rfl,_,World.drewN_drewN _ _ _⟩|exact ⟨rfl,_,Eq.trans (World.drewN_drewN _ _ _) (congrArg (World.drewN _) (Nat.add_assoc _ _ _))⟩))))
 (try simp only [Act.put,zA,zB,zC])
 go_cut [20] (fun v20 wc=>∃ (kq:Nat) (x20_2:Bool),v20 = .bool x20_2∧Aside0 (cohousingref23_Valid.j0 kq x20_2 l0_0 l0_1=some r)∧Aside0 (kq≤k)∧Aside0 (wc.heap[gb117]? = some (.cells #[(.slice A0_0 l0_0.length c0_0),(.slice A0_1 l0_1.length c0_1)] 25 (0,0)))∧Aside0 (Below w.heap.size w wc))
 case first =>
  have H:=HC3.out
  clear HC3
  by_cases c6:t118=true
  ·
   subst c6
   have H1:(cohousingref23_Valid.j0 k (decide ((l0_1.length:Int) > 64)) l0_0 l0_1)=some r:=by rw [if_pos rfl] at H;exact H
   clear H
   have H:=H1
   clear H1
   have H':=zF H
   clear H
   have hcz7_0:w4.cell? ⟨gb117,0,none⟩=some (.slice A0_0 l0_0.length c0_0):=(blk_cell BK117.out 0).trans rfl
   have hcz7_1:w4.cell? ⟨gb117,1,none⟩=some (.slice A0_1 l0_1.length c0_1):=(blk_cell BK117.out 1).trans rfl
   have hfz7_0:=blk_frozen BK117.out 0
   have hfz7_1:=blk_frozen BK117.out 1
   go_wp2
   repeat (go_quiet (fail);try go_wp2)
   go_meet
   case rel=>exact ⟨_,(decide ((l0_1.length:Int) > 64)),(by first|rfl|(simp;done)|(simp [*];done)),H',⟨by first|omega|exact Nat.le_refl _⟩,⟨by (with_reducible repeat (first|refine blk_drewN ?_ _|refine blk_drew ?_|refine blk_alloc ?_ _));exact BK117.out⟩,⟨by repeat (first|(with_reducible first|exact HB.out|apply below_alloc|apply pw_below_drewN|apply below_drew1|refine below_set ?_ GE117.out)|exact HB.out)⟩⟩
  ·
   replace c6:=Bool.eq_false_iff.mpr c6
   subst c6
   have H1:(cohousingref23_Valid.j0 k true l0_0 l0_1)=some r:=by rw [if_neg (show ¬ (false=true) by decide)] at H;exact H
   clear H
   have H:=H1
   clear H1
   have H':=zF H
   clear H
   go_wp2
   repeat (go_quiet (fail);try go_wp2)
   go_meet
   case rel=>exact ⟨_,(true),(by first|rfl|(simp;done)|(simp [*];done)),H',⟨by first|omega|exact Nat.le_refl _⟩,⟨by (with_reducible repeat (first|refine blk_drewN ?_ _|refine blk_drew ?_|refine blk_alloc ?_ _));exact BK117.out⟩,⟨by repeat (first|(with_reducible first|exact HB.out|apply below_alloc|apply pw_below_drewN|apply below_drew1|refine below_set ?_ GE117.out)|exact HB.out)⟩⟩
 case rest =>
  clear HC3
  try clear c2
  try clear p2
  try clear c6
  try clear hcz5_0
  try clear hcz5_1
  try clear hcz7_0
  try clear hcz7_1
  try clear hfz5_0
  try clear hfz5_1
  try clear hfz7_0
  try clear hfz7_1
  obtain ⟨kq,x20_2,rfl,HA,HJ2,BK117,HB⟩:=hcut
  cases kq with
  | zero=>exact absurd HA.out (by simp [cohousingref23_Valid.j0])
  | succ kj2 =>
   have H:=HA.out
   clear HA
   simp only [cohousingref23_Valid.j0] at H
   by_cases c8:x20_2=true
   ·
    subst c8
    have H1:(some false)=some r:=by rw [if_pos rfl] at H;exact H
    clear H
    have H:=H1
    clear H1
    obtain rfl:=Option.some.inj H
    go_wp2
    repeat (go_quiet (fail);try go_wp2)
    go_ret
    exact ⟨by first|rfl|(simp [errW_none,errW_some] <;> rfl)|(simp [*,errW_none,errW_some] <;> rfl),by repeat (first|(with_reducible first|exact HB.out|apply below_alloc|apply pw_below_drewN|apply below_drew1|refine below_set ?_ GE117.out)|exact HB.out)⟩
   ·
    replace c8:=Bool.eq_false_iff.mpr c8
    subst c8
    have H1:(cohousingref23_Valid.l0 kj2 0 l0_0 l0_1)=some r:=by rw [if_neg (show ¬ (false=true) by decide)] at H;exact H
    clear H
    have H:=H1
    clear H1
    have H':=zF H
    clear H
    go_wp2
    repeat (go_quiet (fail);try go_wp2)
    go_loopg [4] kj2 (fun kq v4 w'=>∃ (x4_2:Int),v4 = .int .i64 x4_2∧Aside0 (cohousingref23_Valid.l0 kq x4_2 l0_0 l0_1=some r)∧Aside0 (kq≤kj2)∧Aside0 (w'.heap[gb117]? = some (.cells #[(.slice A0_0 l0_0.length c0_0),(.slice A0_1 l0_1.length c0_1)] 25 (0,0)))∧Aside0 (Below w.heap.size w w'))
    case atStart=>exact ⟨(0),(by first|rfl|(simp;done)|(simp [*];done)),H',⟨Nat.le_refl _⟩,⟨by (with_reducible repeat (first|refine blk_drewN ?_ _|refine blk_drew ?_|refine blk_alloc ?_ _));exact BK117.out⟩,⟨by repeat (first|(with_reducible first|exact HB.out|apply below_alloc|apply pw_below_drewN|apply below_drew1|refine below_set ?_ GE117.out)|exact HB.out)⟩⟩
    case round =>
     clear H'
     try clear c2
     try clear p2
     try clear c6
     try clear c8
     try clear hcz5_0
     try clear hcz5_1
     try clear hcz7_0
     try clear hcz7_1
     try clear hfz5_0
     try clear hfz5_1
     try clear hfz7_0
     try clear hfz7_1
     try clear p2
     obtain ⟨x4_2,rfl,HA,HK2,BK117,HB⟩:=hrel
     cases gk with
     | zero=>exact absurd HA.out (by simp [cohousingref23_Valid.l0])
     | succ k2 =>
      have H:=HA.out
      clear HA
      simp only [cohousingref23_Valid.l0] at H
      by_cases c9:x4_2 < (l0_1.length:Int)
      ·
       rw [if_pos c9] at H
       have c9b0:decide (x4_2 < (l0_1.length:Int))=true:=decide_eq_true c9
       clear c9
       by_cases c10:0≤x4_2
       ·
        rw [if_pos c10] at H
        have c10b0:decide (0≤x4_2)=true:=decide_eq_true c10
        clear c10
        have HC11:=zF H
        clear H
        have hcz12_0:wr.cell? ⟨gb117,0,none⟩=some (.slice A0_0 l0_0.length c0_0):=(blk_cell BK117.out 0).trans rfl
        have hcz12_1:wr.cell? ⟨gb117,1,none⟩=some (.slice A0_1 l0_1.length c0_1):=(blk_cell BK117.out 1).trans rfl
        have hfz12_0:=blk_frozen BK117.out 0
        have hfz12_1:=blk_frozen BK117.out 1
        have p119:0≤(x4_2:Int):=zE (by first|(with_reducible assumption)|assumption)
        have q119:x4_2 < (l0_1.length:Int):=zE (by first|(with_reducible assumption)|assumption)
        obtain ⟨ad119,A119_2,c119_2,e119,hx119_0,hx119_1,hx119_2,hl119_2,hi119_2⟩:=at_T41 HR0_1.out x4_2 p119 q119
        cases e119
        replace hx119_0:=(HB.out.cell (World.block_lt_of_cell? w _ hx119_0)).trans hx119_0
        replace hx119_1:=(HB.out.cell (World.block_lt_of_cell? w _ hx119_1)).trans hx119_1
        replace hx119_2:=(HB.out.cell (World.block_lt_of_cell? w _ hx119_2)).trans hx119_2
        have HR119_2:=zF hi119_2
        have HC119_2:=zF hl119_2
        clear hi119_2 hl119_2
        replace p119:=eq_true p119
        replace q119:=eq_true q119
        go_upto_region 8 with (first|((with_reducible refine gate_dst (N:=5) rfl ?_);(try (refine gate_guard (by rfl) ?_;dsimp only));refine box_event ?hg (N:=5) ?hd (cs:=#[.int .i64 0,.int .i64 0,.slice none 0 0]) (t:=41) ?hr ?_;(case hd=>rfl);(case hg=>rfl);(case hr=>first|(go_simp;done)|(go_simp;rfl));intro gb120 hg w13 hbox hb;have n0_:=zF (blk_below (g:=gb117) (o:=.cells #[.slice A0_0 l0_0.length c0_0,.slice (some ad119) l0_1.length c0_1] 25 (0,0)) (by (with_reducible repeat (first|refine blk_drewN ?_ _|refine blk_drew ?_|refine blk_alloc ?_ _));exact BK117.out) hb);have n1_:=zF (below_step (by repeat (first|(with_reducible first|exact HB.out|apply below_alloc|apply pw_below_drewN|apply below_drew1|refine below_set ?_ GE117.out)|exact HB.out)) hb);have n2_:=zF (hbox);have n3_:=zF ((by rw [hg];exact (below_size (by repeat (first|(with_reducible first|exact HB.out|apply below_alloc|apply pw_below_drewN|apply below_drew1|refine below_set ?_ GE117.out)|exact HB.out))):w.heap.size≤gb120));have n4_:=zF ((by rw [hg];exact (below_size (by repeat (first|(with_reducible first|exact HB.out|apply below_alloc|apply pw_below_drewN|apply below_drew1|refine below_set ?_ GE117.out)|exact HB.out))):w.heap.size≤gb120));have n5_:=zF ((by rw [hg];exact Nat.ne_of_lt (blk_lt (g:=gb117) (o:=.cells #[.slice A0_0 l0_0.length c0_0,.slice (some ad119) l0_1.length c0_1] 25 (0,0)) (by (with_reducible repeat (first|refine blk_drewN ?_ _|refine blk_drew ?_|refine blk_alloc ?_ _));exact BK117.out)):gb117≠gb120));have n6_:=zF ((by rw [hg];exact Nat.ne_of_gt (blk_lt (g:=gb117) (o:=.cells #[.slice A0_0 l0_0.length c0_0,.slice (some ad119) l0_1.length c0_1] 25 (0,0)) (by (with_reducible repeat (first|refine blk_drewN ?_ _|refine blk_drew ?_|refine blk_alloc ?_ _));exact BK117.out)):gb120≠gb117));clear BK117;clear HB;have BK117:=n0_;have HB:=n1_;have BK120:=n2_;have GW120:=n3_;have GE120:=n4_;have NB117_120:=n5_;have NB120_117:=n6_;clear n0_ n1_ n2_ n3_ n4_ n5_ n6_;clear hb hbox hg;have hnb14:=NB120_117.out;have hnc14:=NB117_120.out;have hcz15_0:w13.cell? ⟨gb120,0,none⟩=some (.int .i64 0):=(blk_cell BK120.out 0).trans rfl;have hcz15_1:w13.cell? ⟨gb120,1,none⟩=some (.int .i64 0):=(blk_cell BK120.out 1).trans rfl;have hcz15_2:w13.cell? ⟨gb120,2,none⟩=some (.slice none 0 0):=(blk_cell BK120.out 2).trans rfl;have hfz15_0:=blk_frozen BK120.out 0;have hfz15_1:=blk_frozen BK120.out 1;have hfz15_2:=blk_frozen BK120.out 2))
        repeat (go_quiet (first|((with_reducible refine gate_dst (N:=5) rfl ?_);(try (refine gate_guard (by rfl) ?_;dsimp only));refine box_event ?hg (N:=5) ?hd (cs:=#[.int .i64 0,.int .i64 0,.slice none 0 0]) (t:=41) ?hr ?_;(case hd=>rfl);(case hg=>rfl);(case hr=>first|(go_simp;done)|(go_simp;rfl));intro gb120 hg w13 hbox hb;have n0_:=zF (blk_below (g:=gb117) (o:=.cells #[.slice A0_0 l0_0.length c0_0,.slice (some ad119) l0_1.length c0_1] 25 (0,0)) (by (with_reducible repeat (first|refine blk_drewN ?_ _|refine blk_drew ?_|refine blk_alloc ?_ _));exact BK117.out) hb);have n1_:=zF (below_step (by repeat (first|(with_reducible first|exact HB.out|apply below_alloc|apply pw_below_drewN|apply below_drew1|refine below_set ?_ GE117.out)|exact HB.out)) hb);have n2_:=zF (hbox);have n3_:=zF ((by rw [hg];exact (below_size (by repeat (first|(with_reducible first|exact HB.out|apply below_alloc|apply pw_below_drewN|apply below_drew1|refine below_set ?_ GE117.out)|exact HB.out))):w.heap.size≤gb120));have n4_:=zF ((by rw [hg];exact (below_size (by repeat (first|(with_reducible first|exact HB.out|apply below_alloc|apply pw_below_drewN|apply below_drew1|refine below_set ?_ GE117.out)|exact HB.out))):w.heap.size≤gb120));have n5_:=zF ((by rw [hg];exact Nat.ne_of_lt (blk_lt (g:=gb117) (o:=.cells #[.slice A0_0 l0_0.length c0_0,.slice (some ad119) l0_1.length c0_1] 25 (0,0)) (by (with_reducible repeat (first|refine blk_drewN ?_ _|refine blk_drew ?_|refine blk_alloc ?_ _));exact BK117.out)):gb117≠gb120));have n6_:=zF ((by rw [hg];exact Nat.ne_of_gt (blk_lt (g:=gb117) (o:=.cells #[.slice A0_0 l0_0.length c0_0,.slice (some ad119) l0_1.length c0_1] 25 (0,0)) (by (with_reducible repeat (first|refine blk_drewN ?_ _|refine blk_drew ?_|refine blk_alloc ?_ _));exact BK117.out)):gb120≠gb117));clear BK117;clear HB;have BK117:=n0_;have HB:=n1_;have BK120:=n2_;have GW120:=n3_;have GE120:=n4_;have NB117_120:=n5_;have NB120_117:=n6_;clear n0_ n1_ n2_ n3_ n4_ n5_ n6_;clear hb hbox hg;have hnb14:=NB120_117.out;have hnc14:=NB117_120.out;have hcz15_0:w13.cell? ⟨gb120,0,none⟩=some (.int .i64 0):=(blk_cell BK120.out 0).trans rfl;have hcz15_1:w13.cell? ⟨gb120,1,none⟩=some (.int .i64 0):=(blk_cell BK120.out 1).trans rfl;have hcz15_2:w13.cell? ⟨gb120,2,none⟩=some (.slice none 0 0):=(blk_cell BK120.out 2).trans rfl;have hfz15_0:=blk_frozen BK120.out 0;have hfz15_1:=blk_frozen BK120.out 1;have hfz15_2:=blk_frozen BK120.out 2));go_upto_region 8 with (first|((with_reducible refine gate_dst (N:=5) rfl ?_);(try (refine gate_guard (by rfl) ?_;dsimp only));refine box_event ?hg (N:=5) ?hd (cs:=#[.int .i64 0,.int .i64 0,.slice none 0 0]) (t:=41) ?hr ?_;(case hd=>rfl);(case hg=>rfl);(case hr=>first|(go_simp;done)|(go_simp;rfl));intro gb120 hg w13 hbox hb;have n0_:=zF (blk_below (g:=gb117) (o:=.cells #[.slice A0_0 l0_0.length c0_0,.slice (some ad119) l0_1.length c0_1] 25 (0,0)) (by (with_reducible repeat (first|refine blk_drewN ?_ _|refine blk_drew ?_|refine blk_alloc ?_ _));exact BK117.out) hb);have n1_:=zF (below_step (by repeat (first|(with_reducible first|exact HB.out|apply below_alloc|apply pw_below_drewN|apply below_drew1|refine below_set ?_ GE117.out)|exact HB.out)) hb);have n2_:=zF (hbox);have n3_:=zF ((by rw [hg];exact (below_size (by repeat (first|(with_reducible first|exact HB.out|apply below_alloc|apply pw_below_drewN|apply below_drew1|refine below_set ?_ GE117.out)|exact HB.out))):w.heap.size≤gb120));have n4_:=zF ((by rw [hg];exact (below_size (by repeat (first|(with_reducible first|exact HB.out|apply below_alloc|apply pw_below_drewN|apply below_drew1|refine below_set ?_ GE117.out)|exact HB.out))):w.heap.size≤gb120));have n5_:=zF ((by rw [hg];exact Nat.ne_of_lt (blk_lt (g:=gb117) (o:=.cells #[.slice A0_0 l0_0.length c0_0,.slice (some ad119) l0_1.length c0_1] 25 (0,0)) (by (with_reducible repeat (first|refine blk_drewN ?_ _|refine blk_drew ?_|refine blk_alloc ?_ _));exact BK117.out)):gb117≠gb120));have n6_:=zF ((by rw [hg];exact Nat.ne_of_gt (blk_lt (g:=gb117) (o:=.cells #[.slice A0_0 l0_0.length c0_0,.slice (some ad119) l0_1.length c0_1] 25 (0,0)) (by (with_reducible repeat (first|refine blk_drewN ?_ _|refine blk_drew ?_|refine blk_alloc ?_ _));exact BK117.out)):gb120≠gb117));clear BK117;clear HB;have BK117:=n0_;have HB:=n1_;have BK120:=n2_;have GW120:=n3_;have GE120:=n4_;have NB117_120:=n5_;have NB120_117:=n6_;clear n0_ n1_ n2_ n3_ n4_ n5_ n6_;clear hb hbox hg;have hnb14:=NB120_117.out;have hnc14:=NB117_120.out;have hcz15_0:w13.cell? ⟨gb120,0,none⟩=some (.int .i64 0):=(blk_cell BK120.out 0).trans rfl;have hcz15_1:w13.cell? ⟨gb120,1,none⟩=some (.int .i64 0):=(blk_cell BK120.out 1).trans rfl;have hcz15_2:w13.cell? ⟨gb120,2,none⟩=some (.slice none 0 0):=(blk_cell BK120.out 2).trans rfl;have hfz15_0:=blk_frozen BK120.out 0;have hfz15_1:=blk_frozen BK120.out 1;have hfz15_2:=blk_frozen BK120.out 2)))
        (try simp only [Act.put,zA,zB,zC])
        go_cut [56] (fun v56 wc=>∃ (kq:Nat) (x56_10:Bool),v56 = .bool x56_10∧Aside0 (cohousingref23_Valid.j2 kq x4_2 x56_10 l0_0 l0_1 ((rd_T41 l0_1 x4_2).f0) ((rd_T41 l0_1 x4_2).f1) ((rd_T41 l0_1 x4_2).f2)=some r)∧Aside0 (kq≤k2)∧Aside0 (wc.heap[gb117]? = some (.cells #[(.slice A0_0 l0_0.length c0_0),(.slice (some ad119) l0_1.length c0_1)] 25 (0,0)))∧Aside0 (wc.heap[gb120]? = some (.cells #[.int .i64 ((rd_T41 l0_1 x4_2).f0),.int .i64 ((rd_T41 l0_1 x4_2).f1),(.slice A119_2 ((rd_T41 l0_1 x4_2).f2).length c119_2)] 41 (0,0)))∧Aside0 (Below w.heap.size w wc))
        case first =>
         have H:=HC11.out
         clear HC11
         by_cases c16:((rd_T41 l0_1 x4_2).f0) < 1
         ·
          rw [if_pos c16] at H
          have c16b0:decide (((rd_T41 l0_1 x4_2).f0) < 1)=true:=decide_eq_true c16
          clear c16
          (first|rw [c16b0]|(simp only [i64_w,i32_w];rw [c16b0])|skip)
          have H':=zF H
          clear H
          have hnb17:=NB120_117.out
          have hnc17:=NB117_120.out
          have hcz18_0:w13.cell? ⟨gb120,0,none⟩=some (.int .i64 0):=(blk_cell BK120.out 0).trans rfl
          have hcz18_1:w13.cell? ⟨gb120,1,none⟩=some (.int .i64 0):=(blk_cell BK120.out 1).trans rfl
          have hcz18_2:w13.cell? ⟨gb120,2,none⟩=some (.slice none 0 0):=(blk_cell BK120.out 2).trans rfl
          have hfz18_0:=blk_frozen BK120.out 0
          have hfz18_1:=blk_frozen BK120.out 1
          have hfz18_2:=blk_frozen BK120.out 2
          go_wp2
          repeat (go_quiet (fail);try go_wp2)
          go_meet
          case rel=>exact ⟨_,(true),(by first|rfl|(simp;done)|(simp [*];done)),H',⟨by have:=HJ2.out;have:=HK2.out;first|omega|exact Nat.le_refl _⟩,⟨by (with_reducible repeat (first|refine blk_drewN ?_ _|refine blk_drew ?_|refine blk_alloc ?_ _));refine blk_far ?_ NB117_120.out _;(with_reducible repeat (first|refine blk_drewN ?_ _|refine blk_drew ?_|refine blk_alloc ?_ _));refine blk_far ?_ NB117_120.out _;(with_reducible repeat (first|refine blk_drewN ?_ _|refine blk_drew ?_|refine blk_alloc ?_ _));refine blk_far ?_ NB117_120.out _;(with_reducible repeat (first|refine blk_drewN ?_ _|refine blk_drew ?_|refine blk_alloc ?_ _));exact BK117.out⟩,⟨by (with_reducible repeat (first|refine blk_drewN ?_ _|refine blk_drew ?_|refine blk_alloc ?_ _));refine blk_put (cs:=#[.int .i64 ((rd_T41 l0_1 x4_2).f0),.int .i64 ((rd_T41 l0_1 x4_2).f1),.slice none 0 0]) ?_ 2 _ rfl;(with_reducible repeat (first|refine blk_drewN ?_ _|refine blk_drew ?_|refine blk_alloc ?_ _));refine blk_put (cs:=#[.int .i64 ((rd_T41 l0_1 x4_2).f0),.int .i64 0,.slice none 0 0]) ?_ 1 _ rfl;(with_reducible repeat (first|refine blk_drewN ?_ _|refine blk_drew ?_|refine blk_alloc ?_ _));refine blk_put (cs:=#[.int .i64 0,.int .i64 0,.slice none 0 0]) ?_ 0 _ rfl;(with_reducible repeat (first|refine blk_drewN ?_ _|refine blk_drew ?_|refine blk_alloc ?_ _));exact BK120.out⟩,⟨by repeat (first|(with_reducible first|exact HB.out|apply below_alloc|apply pw_below_drewN|apply below_drew1|refine below_set ?_ GE117.out|refine below_set ?_ GE120.out)|exact HB.out)⟩⟩
         ·
          rw [if_neg c16] at H
          have c16b0:decide (((rd_T41 l0_1 x4_2).f0) < 1)=false:=decide_eq_false c16
          clear c16
          (first|rw [c16b0]|(simp only [i64_w,i32_w];rw [c16b0])|skip)
          by_cases c19:((rd_T41 l0_1 x4_2).f0) > 64
          ·
           rw [if_pos c19] at H
           have c19b0:decide (64 < ((rd_T41 l0_1 x4_2).f0))=true:=decide_eq_true c19
           clear c19
           have H':=zF H
           clear H
           have hnb20:=NB120_117.out
           have hnc20:=NB117_120.out
           have hcz21_0:w13.cell? ⟨gb120,0,none⟩=some (.int .i64 0):=(blk_cell BK120.out 0).trans rfl
           have hcz21_1:w13.cell? ⟨gb120,1,none⟩=some (.int .i64 0):=(blk_cell BK120.out 1).trans rfl
           have hcz21_2:w13.cell? ⟨gb120,2,none⟩=some (.slice none 0 0):=(blk_cell BK120.out 2).trans rfl
           have hfz21_0:=blk_frozen BK120.out 0
           have hfz21_1:=blk_frozen BK120.out 1
           have hfz21_2:=blk_frozen BK120.out 2
           go_wp2
           repeat (go_quiet (fail);try go_wp2)
           go_meet
           case rel=>exact ⟨_,(true),(by first|rfl|(simp;done)|(simp [*];done)),H',⟨by have:=HJ2.out;have:=HK2.out;first|omega|exact Nat.le_refl _⟩,⟨by (with_reducible repeat (first|refine blk_drewN ?_ _|refine blk_drew ?_|refine blk_alloc ?_ _));refine blk_far ?_ NB117_120.out _;(with_reducible repeat (first|refine blk_drewN ?_ _|refine blk_drew ?_|refine blk_alloc ?_ _));refine blk_far ?_ NB117_120.out _;(with_reducible repeat (first|refine blk_drewN ?_ _|refine blk_drew ?_|refine blk_alloc ?_ _));refine blk_far ?_ NB117_120.out _;(with_reducible repeat (first|refine blk_drewN ?_ _|refine blk_drew ?_|refine blk_alloc ?_ _));exact BK117.out⟩,⟨by (with_reducible repeat (first|refine blk_drewN ?_ _|refine blk_drew ?_|refine blk_alloc ?_ _));refine blk_put (cs:=#[.int .i64 ((rd_T41 l0_1 x4_2).f0),.int .i64 ((rd_T41 l0_1 x4_2).f1),.slice none 0 0]) ?_ 2 _ rfl;(with_reducible repeat (first|refine blk_drewN ?_ _|refine blk_drew ?_|refine blk_alloc ?_ _));refine blk_put (cs:=#[.int .i64 ((rd_T41 l0_1 x4_2).f0),.int .i64 0,.slice none 0 0]) ?_ 1 _ rfl;(with_reducible repeat (first|refine blk_drewN ?_ _|refine blk_drew ?_|refine blk_alloc ?_ _));refine blk_put (cs:=#[.int .i64 0,.int .i64 0,.slice none 0 0]) ?_ 0 _ rfl;(with_reducible repeat (first|refine blk_drewN ?_ _|refine blk_drew ?_|refine blk_alloc ?_ _));exact BK120.out⟩,⟨by repeat (first|(with_reducible first|exact HB.out|apply below_alloc|apply pw_below_drewN|apply below_drew1|refine below_set ?_ GE117.out|refine below_set ?_ GE120.out)|exact HB.out)⟩⟩
          ·
           rw [if_neg c19] at H
           have c19b0:decide (64 < ((rd_T41 l0_1 x4_2).f0))=false:=decide_eq_false c19
           clear c19
           by_cases c22:x4_2 > 0
           ·
            rw [if_pos c22] at H
            have c22b0:decide (0 < x4_2)=true:=decide_eq_true c22
            clear c22
            obtain ⟨ji23,hji23⟩:∃ j_:Int,(wrap64 (x4_2 - 1))=j_:=⟨_,rfl⟩
            replace H:(if 0≤(ji23) then (if (ji23) < (l0_1.length:Int) then (cohousingref23_Valid.j2 k2 x4_2 (decide (((rd_T41 l0_1 x4_2).f0)≤((rd_T41 l0_1 (ji23)).f0))) l0_0 l0_1 ((rd_T41 l0_1 x4_2).f0) ((rd_T41 l0_1 x4_2).f1) ((rd_T41 l0_1 x4_2).f2)) else (none)) else (none))=some r:=by first|(rw [hji23] at H;exact H)|(simp only [hji23] at H ⊢;exact H)
            have hji23w:(IntKind.i64.wrap (x4_2 - 1))=ji23:=(i64_w _).trans hji23
            by_cases c24:0≤(ji23)
            ·
             rw [if_pos c24] at H
             have c24b0:decide (0≤(ji23))=true:=decide_eq_true c24
             clear c24
             by_cases c25:(ji23) < (l0_1.length:Int)
             ·
              rw [if_pos c25] at H
              have c25b0:decide ((ji23) < (l0_1.length:Int))=true:=decide_eq_true c25
              clear c25
              have H':=zF H
              clear H
              have hnb26:=NB120_117.out
              have hnc26:=NB117_120.out
              have hcz27_0:w13.cell? ⟨gb120,0,none⟩=some (.int .i64 0):=(blk_cell BK120.out 0).trans rfl
              have hcz27_1:w13.cell? ⟨gb120,1,none⟩=some (.int .i64 0):=(blk_cell BK120.out 1).trans rfl
              have hcz27_2:w13.cell? ⟨gb120,2,none⟩=some (.slice none 0 0):=(blk_cell BK120.out 2).trans rfl
              have hfz27_0:=blk_frozen BK120.out 0
              have hfz27_1:=blk_frozen BK120.out 1
              have hfz27_2:=blk_frozen BK120.out 2
              have hcz28_0:w13.cell? ⟨gb117,0,none⟩=some (.slice A0_0 l0_0.length c0_0):=(blk_cell BK117.out 0).trans rfl
              have hcz28_1:w13.cell? ⟨gb117,1,none⟩=some (.slice (some ad119) l0_1.length c0_1):=(blk_cell BK117.out 1).trans rfl
              have hfz28_0:=blk_frozen BK117.out 0
              have hfz28_1:=blk_frozen BK117.out 1
              have p121:0≤((ji23):Int):=zE (by first|(with_reducible assumption)|assumption)
              have q121:(ji23) < (l0_1.length:Int):=zE (by first|(with_reducible assumption)|assumption)
              obtain ⟨ad121,A121_2,c121_2,e121,hx121_0,hx121_1,hx121_2,hl121_2,hi121_2⟩:=at_T41 HR0_1.out (ji23) p121 q121
              obtain rfl:ad119=ad121:=(by injection e121)
              have hn121_0:ad119.block≠gb120:=Nat.ne_of_lt (Nat.lt_of_lt_of_le (by have:=World.block_lt_of_cell? _ _ hx121_0;first|rwa [add_block] at this|exact this) GW120.out)
              have hn121_1:ad119.block≠gb120:=Nat.ne_of_lt (Nat.lt_of_lt_of_le (by have:=World.block_lt_of_cell? _ _ hx121_0;first|rwa [add_block] at this|exact this) GW120.out)
              have hn121_2:ad119.block≠gb120:=Nat.ne_of_lt (Nat.lt_of_lt_of_le (by have:=World.block_lt_of_cell? _ _ hx121_0;first|rwa [add_block] at this|exact this) GW120.out)
              replace hx121_0:=(HB.out.cell (World.block_lt_of_cell? w _ hx121_0)).trans hx121_0
              replace hx121_1:=(HB.out.cell (World.block_lt_of_cell? w _ hx121_1)).trans hx121_1
              replace hx121_2:=(HB.out.cell (World.block_lt_of_cell? w _ hx121_2)).trans hx121_2
              have HR121_2:=zF hi121_2
              have HC121_2:=zF hl121_2
              clear hi121_2 hl121_2
              replace hx121_0:=(cell_far (p:=⟨gb120,0,none⟩) (by first|(rw [add_block];exact hn121_0)|(show (Addr.add _ _).block≠_;rw [add_block];exact hn121_0)|exact hn121_0) (.int .i64 ((rd_T41 l0_1 x4_2).f0))).trans hx121_0
              replace hx121_1:=(cell_far (p:=⟨gb120,0,none⟩) (by first|(rw [add_block];exact hn121_0)|(show (Addr.add _ _).block≠_;rw [add_block];exact hn121_0)|exact hn121_0) (.int .i64 ((rd_T41 l0_1 x4_2).f0))).trans hx121_1
              replace hx121_2:=(cell_far (p:=⟨gb120,0,none⟩) (by first|(rw [add_block];exact hn121_0)|(show (Addr.add _ _).block≠_;rw [add_block];exact hn121_0)|exact hn121_0) (.int .i64 ((rd_T41 l0_1 x4_2).f0))).trans hx121_2
              replace hx121_0:=(cell_far (p:=⟨gb120,1,none⟩) (by first|(rw [add_block];exact hn121_1)|(show (Addr.add _ _).block≠_;rw [add_block];exact hn121_1)|exact hn121_1) (.int .i64 ((rd_T41 l0_1 x4_2).f1))).trans hx121_0
              replace hx121_1:=(cell_far (p:=⟨gb120,1,none⟩) (by first|(rw [add_block];exact hn121_1)|(show (Addr.add _ _).block≠_;rw [add_block];exact hn121_1)|exact hn121_1) (.int .i64 ((rd_T41 l0_1 x4_2).f1))).trans hx121_1
              replace hx121_2:=(cell_far (p:=⟨gb120,1,none⟩) (by first|(rw [add_block];exact hn121_1)|(show (Addr.add _ _).block≠_;rw [add_block];exact hn121_1)|exact hn121_1) (.int .i64 ((rd_T41 l0_1 x4_2).f1))).trans hx121_2
              replace hx121_0:=(cell_far (p:=⟨gb120,2,none⟩) (by first|(rw [add_block];exact hn121_2)|(show (Addr.add _ _).block≠_;rw [add_block];exact hn121_2)|exact hn121_2) (.slice A119_2 ((rd_T41 l0_1 x4_2).f2).length c119_2)).trans hx121_0
              replace hx121_1:=(cell_far (p:=⟨gb120,2,none⟩) (by first|(rw [add_block];exact hn121_2)|(show (Addr.add _ _).block≠_;rw [add_block];exact hn121_2)|exact hn121_2) (.slice A119_2 ((rd_T41 l0_1 x4_2).f2).length c119_2)).trans hx121_1
              replace hx121_2:=(cell_far (p:=⟨gb120,2,none⟩) (by first|(rw [add_block];exact hn121_2)|(show (Addr.add _ _).block≠_;rw [add_block];exact hn121_2)|exact hn121_2) (.slice A119_2 ((rd_T41 l0_1 x4_2).f2).length c119_2)).trans hx121_2
              (try have hy121_0:=fun (n_:Nat)=>(show (((((w13.drewN n_).setCell ⟨gb120,0,none⟩ (.int .i64 ((rd_T41 l0_1 x4_2).f0))).setCell ⟨gb120,1,none⟩ (.int .i64 ((rd_T41 l0_1 x4_2).f1))).setCell ⟨gb120,2,none⟩ (.slice A119_2 ((rd_T41 l0_1 x4_2).f2).length c119_2))).cell? _=some _ from hx121_0))
              (try have hy121_1:=fun (n_:Nat)=>(show (((((w13.drewN n_).setCell ⟨gb120,0,none⟩ (.int .i64 ((rd_T41 l0_1 x4_2).f0))).setCell ⟨gb120,1,none⟩ (.int .i64 ((rd_T41 l0_1 x4_2).f1))).setCell ⟨gb120,2,none⟩ (.slice A119_2 ((rd_T41 l0_1 x4_2).f2).length c119_2))).cell? _=some _ from hx121_1))
              (try have hy121_2:=fun (n_:Nat)=>(show (((((w13.drewN n_).setCell ⟨gb120,0,none⟩ (.int .i64 ((rd_T41 l0_1 x4_2).f0))).setCell ⟨gb120,1,none⟩ (.int .i64 ((rd_T41 l0_1 x4_2).f1))).setCell ⟨gb120,2,none⟩ (.slice A119_2 ((rd_T41 l0_1 x4_2).f2).length c119_2))).cell? _=some _ from hx121_2))
              clear hn121_0 hn121_1 hn121_2
              replace p121:=eq_true p121
              replace q121:=eq_true q121
              go_wp2
              repeat (go_quiet (fail);try go_wp2)
              go_meet
              case rel=>exact ⟨_,(decide (((rd_T41 l0_1 x4_2).f0)≤((rd_T41 l0_1 (ji23)).f0))),(by first|rfl|(simp;done)|(simp only [← hji23] <;> (first|rfl|simp))|(simp [*];done)),H',⟨by have:=HJ2.out;have:=HK2.out;first|omega|exact Nat.le_refl _⟩,⟨by (with_reducible repeat (first|refine blk_drewN ?_ _|refine blk_drew ?_|refine blk_alloc ?_ _));refine blk_far ?_ NB117_120.out _;(with_reducible repeat (first|refine blk_drewN ?_ _|refine blk_drew ?_|refine blk_alloc ?_ _));refine blk_far ?_ NB117_120.out _;(with_reducible repeat (first|refine blk_drewN ?_ _|refine blk_drew ?_|refine blk_alloc ?_ _));refine blk_far ?_ NB117_120.out _;(with_reducible repeat (first|refine blk_drewN ?_ _|refine blk_drew ?_|refine blk_alloc ?_ _));exact BK117.out⟩,⟨by (with_reducible repeat (first|refine blk_drewN ?_ _|refine blk_drew ?_|refine blk_alloc ?_ _));refine blk_put (cs:=#[.int .i64 ((rd_T41 l0_1 x4_2).f0),.int .i64 ((rd_T41 l0_1 x4_2).f1),.slice none 0 0]) ?_ 2 _ rfl;(with_reducible repeat (first|refine blk_drewN ?_ _|refine blk_drew ?_|refine blk_alloc ?_ _));refine blk_put (cs:=#[.int .i64 ((rd_T41 l0_1 x4_2).f0),.int .i64 0,.slice none 0 0]) ?_ 1 _ rfl;(with_reducible repeat (first|refine blk_drewN ?_ _|refine blk_drew ?_|refine blk_alloc ?_ _));refine blk_put (cs:=#[.int .i64 0,.int .i64 0,.slice none 0 0]) ?_ 0 _ rfl;(with_reducible repeat (first|refine blk_drewN ?_ _|refine blk_drew ?_|refine blk_alloc ?_ _));exact BK120.out⟩,⟨by repeat (first|(with_reducible first|exact HB.out|apply below_alloc|apply pw_below_drewN|apply below_drew1|refine below_set ?_ GE117.out|refine below_set ?_ GE120.out)|exact HB.out)⟩⟩
             ·
              rw [if_neg c25] at H
              exact absurd H (by simp)
            ·
             rw [if_neg c24] at H
             exact absurd H (by simp)
           ·
            rw [if_neg c22] at H
            have c22b0:decide (0 < x4_2)=false:=decide_eq_false c22
            clear c22
            have H':=zF H
            clear H
            have hnb29:=NB120_117.out
            have hnc29:=NB117_120.out
            have hcz30_0:w13.cell? ⟨gb120,0,none⟩=some (.int .i64 0):=(blk_cell BK120.out 0).trans rfl
            have hcz30_1:w13.cell? ⟨gb120,1,none⟩=some (.int .i64 0):=(blk_cell BK120.out 1).trans rfl
            have hcz30_2:w13.cell? ⟨gb120,2,none⟩=some (.slice none 0 0):=(blk_cell BK120.out 2).trans rfl
            have hfz30_0:=blk_frozen BK120.out 0
            have hfz30_1:=blk_frozen BK120.out 1
            have hfz30_2:=blk_frozen BK120.out 2
            go_wp2
            repeat (go_quiet (fail);try go_wp2)
            go_meet
            case rel=>exact ⟨_,(false),(by first|rfl|(simp;done)|(simp [*];done)),H',⟨by have:=HJ2.out;have:=HK2.out;first|omega|exact Nat.le_refl _⟩,⟨by (with_reducible repeat (first|refine blk_drewN ?_ _|refine blk_drew ?_|refine blk_alloc ?_ _));refine blk_far ?_ NB117_120.out _;(with_reducible repeat (first|refine blk_drewN ?_ _|refine blk_drew ?_|refine blk_alloc ?_ _));refine blk_far ?_ NB117_120.out _;(with_reducible repeat (first|refine blk_drewN ?_ _|refine blk_drew ?_|refine blk_alloc ?_ _));refine blk_far ?_ NB117_120.out _;(with_reducible repeat (first|refine blk_drewN ?_ _|refine blk_drew ?_|refine blk_alloc ?_ _));exact BK117.out⟩,⟨by (with_reducible repeat (first|refine blk_drewN ?_ _|refine blk_drew ?_|refine blk_alloc ?_ _));refine blk_put (cs:=#[.int .i64 ((rd_T41 l0_1 x4_2).f0),.int .i64 ((rd_T41 l0_1 x4_2).f1),.slice none 0 0]) ?_ 2 _ rfl;(with_reducible repeat (first|refine blk_drewN ?_ _|refine blk_drew ?_|refine blk_alloc ?_ _));refine blk_put (cs:=#[.int .i64 ((rd_T41 l0_1 x4_2).f0),.int .i64 0,.slice none 0 0]) ?_ 1 _ rfl;(with_reducible repeat (first|refine blk_drewN ?_ _|refine blk_drew ?_|refine blk_alloc ?_ _));refine blk_put (cs:=#[.int .i64 0,.int .i64 0,.slice none 0 0]) ?_ 0 _ rfl;(with_reducible repeat (first|refine blk_drewN ?_ _|refine blk_drew ?_|refine blk_alloc ?_ _));exact BK120.out⟩,⟨by repeat (first|(with_reducible first|exact HB.out|apply below_alloc|apply pw_below_drewN|apply below_drew1|refine below_set ?_ GE117.out|refine below_set ?_ GE120.out)|exact HB.out)⟩⟩
        case rest =>
         clear HC11
         try clear c1
         try clear p1
         try clear q1
         try clear hx1
         try clear c2
         try clear p2
         try clear c6
         try clear p6
         try clear c8
         try clear c9
         try clear c9b0
         try clear c10
         try clear c10b0
         try clear c11
         try clear p11
         try clear q11
         try clear hx11
         try clear c12
         try clear p12
         try clear q12
         try clear hx12
         try clear c14
         try clear c16
         try clear c16b0
         try clear c17
         try clear c19
         try clear c19b0
         try clear c20
         try clear c22
         try clear c22b0
         try clear c24
         try clear c24b0
         try clear c25
         try clear c25b0
         try clear c26
         try clear c29
         try clear hcz12_0
         try clear hcz12_1
         try clear hcz15_0
         try clear hcz15_1
         try clear hcz15_2
         try clear hcz18_0
         try clear hcz18_1
         try clear hcz18_2
         try clear hcz21_0
         try clear hcz21_1
         try clear hcz21_2
         try clear hcz27_0
         try clear hcz27_1
         try clear hcz27_2
         try clear hcz28_0
         try clear hcz28_1
         try clear hcz30_0
         try clear hcz30_1
         try clear hcz30_2
         try clear hcz5_0
         try clear hcz5_1
         try clear hcz7_0
         try clear hcz7_1
         try clear hfz12_0
         try clear hfz12_1
         try clear hfz15_0
         try clear hfz15_1
         try clear hfz15_2
         try clear hfz18_0
         try clear hfz18_1
         try clear hfz18_2
         try clear hfz21_0
         try clear hfz21_1
         try clear hfz21_2
         try clear hfz27_0
         try clear hfz27_1
         try clear hfz27_2
         try clear hfz28_0
         try clear hfz28_1
         try clear hfz30_0
         try clear hfz30_1
         try clear hfz30_2
         try clear hfz5_0
         try clear hfz5_1
         try clear hfz7_0
         try clear hfz7_1
         try clear hx119_0
         try clear hx119_1
         try clear hx119_2
         try clear hx121_0
         try clear hx121_1
         try clear hx121_2
         try clear p119
         try clear p121
         try clear p2
         try clear q119
         try clear q121
         obtain ⟨kq,x56_10,rfl,HA,HJ10,BK117,BK120,HB⟩:=hcut
         cases kq with
         | zero=>exact absurd HA.out (by simp [cohousingref23_Valid.j2])
         | succ kj10 =>
          have H:=HA.out
          clear HA
          simp only [cohousingref23_Valid.j2] at H
          by_cases c31:x56_10=true
          ·
           subst c31
           have H1:(some false)=some r:=by rw [if_pos rfl] at H;exact H
           clear H
           have H:=H1
           clear H1
           obtain rfl:=Option.some.inj H
           go_wp2
           repeat (go_quiet (fail);try go_wp2)
           go_ret
           exact ⟨by first|rfl|(simp [errW_none,errW_some] <;> rfl)|(simp [*,errW_none,errW_some] <;> rfl),by repeat (first|(with_reducible first|exact HB.out|apply below_alloc|apply pw_below_drewN|apply below_drew1|refine below_set ?_ GE117.out|refine below_set ?_ GE120.out)|exact HB.out)⟩
          ·
           replace c31:=Bool.eq_false_iff.mpr c31
           subst c31
           have H1:((cohousingref23_Has.f kj10 l0_0 ((rd_T41 l0_1 x4_2).f1)).bind fun t122=>(if ((rd_T41 l0_1 x4_2).f1)=0 then (cohousingref23_Valid.j3 kj10 x4_2 false l0_0 l0_1 ((rd_T41 l0_1 x4_2).f0) ((rd_T41 l0_1 x4_2).f1) ((rd_T41 l0_1 x4_2).f2)) else (cohousingref23_Valid.j3 kj10 x4_2 (!t122) l0_0 l0_1 ((rd_T41 l0_1 x4_2).f0) ((rd_T41 l0_1 x4_2).f1) ((rd_T41 l0_1 x4_2).f2))))=some r:=by rw [if_neg (show ¬ (false=true) by decide)] at H;exact H
           clear H
           have H:=H1
           clear H1
           replace H:=Option.bind_eq_some_iff.mp H
           obtain ⟨t122,A320,H⟩:=H
           replace H:(if ((rd_T41 l0_1 x4_2).f1)=0 then (cohousingref23_Valid.j3 kj10 x4_2 false l0_0 l0_1 ((rd_T41 l0_1 x4_2).f0) ((rd_T41 l0_1 x4_2).f1) ((rd_T41 l0_1 x4_2).f2)) else (cohousingref23_Valid.j3 kj10 x4_2 (!t122) l0_0 l0_1 ((rd_T41 l0_1 x4_2).f0) ((rd_T41 l0_1 x4_2).f1) ((rd_T41 l0_1 x4_2).f2)))=some r:=H
           have A32:=zF A320
           clear A320
           have HC33:=zF H
           clear H
           have hnb34:=NB117_120.out
           have hnc34:=NB120_117.out
           have hcz35_0:wc.cell? ⟨gb117,0,none⟩=some (.slice A0_0 l0_0.length c0_0):=(blk_cell BK117.out 0).trans rfl
           have hcz35_1:wc.cell? ⟨gb117,1,none⟩=some (.slice (some ad119) l0_1.length c0_1):=(blk_cell BK117.out 1).trans rfl
           have hfz35_0:=blk_frozen BK117.out 0
           have hfz35_1:=blk_frozen BK117.out 1
           have hcz36_0:wc.cell? ⟨gb120,0,none⟩=some (.int .i64 ((rd_T41 l0_1 x4_2).f0)):=(blk_cell BK120.out 0).trans rfl
           have hcz36_1:wc.cell? ⟨gb120,1,none⟩=some (.int .i64 ((rd_T41 l0_1 x4_2).f1)):=(blk_cell BK120.out 1).trans rfl
           have hcz36_2:wc.cell? ⟨gb120,2,none⟩=some (.slice A119_2 ((rd_T41 l0_1 x4_2).f2).length c119_2):=(blk_cell BK120.out 2).trans rfl
           have hfz36_0:=blk_frozen BK120.out 0
           have hfz36_1:=blk_frozen BK120.out 1
           have hfz36_2:=blk_frozen BK120.out 2
           go_upto_region 11 with (first|(go_at_call 25;(with_reducible refine (cohousingref23_Has.calls kj10 _ _ l0_0 ((rd_T41 l0_1 x4_2).f1) t122 _ ?side1 ?side2 A32.out).mono ?_);(case side1=>repeat (first|exact (Kd.C_below HR0_0.out HB.out)|(with_reducible refine Kd.C_alloc ?_ _)|(with_reducible refine Kd.C_drewN ?_ _)|(with_reducible refine Kd.C_drew ?_)));(case side2=>exact HC0_0.out);rintro e w' ⟨rfl,⟨nd,rfl⟩⟩;(try first|exact ⟨rfl,_,World.drewN_drewN _ _ _⟩|exact ⟨rfl,_,Eq.trans (World.drewN_drewN _ _ _) (congrArg (World.drewN _) (Nat.add_assoc _ _ _))⟩)))
           repeat (go_quiet (first|(go_at_call 25;(with_reducible refine (cohousingref23_Has.calls kj10 _ _ l0_0 ((rd_T41 l0_1 x4_2).f1) t122 _ ?side1 ?side2 A32.out).mono ?_);(case side1=>repeat (first|exact (Kd.C_below HR0_0.out HB.out)|(with_reducible refine Kd.C_alloc ?_ _)|(with_reducible refine Kd.C_drewN ?_ _)|(with_reducible refine Kd.C_drew ?_)));(case side2=>exact HC0_0.out);rintro e w' ⟨rfl,⟨nd,rfl⟩⟩;(try first|exact ⟨rfl,_,World.drewN_drewN _ _ _⟩|exact ⟨rfl,_,Eq.trans (World.drewN_drewN _ _ _) (congrArg (World.drewN _) (Nat.add_assoc _ _ _))⟩)));go_upto_region 11 with (first|(go_at_call 25;(with_reducible refine (cohousingref23_Has.calls kj10 _ _ l0_0 ((rd_T41 l0_1 x4_2).f1) t122 _ ?side1 ?side2 A32.out).mono ?_);(case side1=>repeat (first|exact (Kd.C_below HR0_0.out HB.out)|(with_reducible refine Kd.C_alloc ?_ _)|(with_reducible refine Kd.C_drewN ?_ _)|(with_reducible refine Kd.C_drew ?_)));(case side2=>exact HC0_0.out);rintro e w' ⟨rfl,⟨nd,rfl⟩⟩;(try first|exact ⟨rfl,_,World.drewN_drewN _ _ _⟩|exact ⟨rfl,_,Eq.trans (World.drewN_drewN _ _ _) (congrArg (World.drewN _) (Nat.add_assoc _ _ _))⟩))))
           (try simp only [Act.put,zA,zB,zC])
           go_cut [68] (fun v68 wc=>∃ (kq:Nat) (x68_32:Bool),v68 = .bool x68_32∧Aside0 (cohousingref23_Valid.j3 kq x4_2 x68_32 l0_0 l0_1 ((rd_T41 l0_1 x4_2).f0) ((rd_T41 l0_1 x4_2).f1) ((rd_T41 l0_1 x4_2).f2)=some r)∧Aside0 (kq≤kj10)∧Aside0 (wc.heap[gb117]? = some (.cells #[(.slice A0_0 l0_0.length c0_0),(.slice (some ad119) l0_1.length c0_1)] 25 (0,0)))∧Aside0 (wc.heap[gb120]? = some (.cells #[.int .i64 ((rd_T41 l0_1 x4_2).f0),.int .i64 ((rd_T41 l0_1 x4_2).f1),(.slice A119_2 ((rd_T41 l0_1 x4_2).f2).length c119_2)] 41 (0,0)))∧Aside0 (Below w.heap.size w wc))
           case first =>
            have H:=HC33.out
            clear HC33
            by_cases c37:((rd_T41 l0_1 x4_2).f1)=0
            ·
             rw [if_pos c37] at H
             have c37b0:(((rd_T41 l0_1 x4_2).f1) == 0)=true:=beq_iff_eq.mpr c37
             have c37b1:(((rd_T41 l0_1 x4_2).f1) != 0)=false:=bne_eq_false_iff_eq.mpr c37
             clear c37
             (first|rw [c37b0]|(simp only [i64_w,i32_w];rw [c37b0])|skip)
             have H':=zF H
             clear H
             have hnb38:=NB120_117.out
             have hnc38:=NB117_120.out
             have hcz39_0:wc.cell? ⟨gb120,0,none⟩=some (.int .i64 ((rd_T41 l0_1 x4_2).f0)):=(blk_cell BK120.out 0).trans rfl
             have hcz39_1:wc.cell? ⟨gb120,1,none⟩=some (.int .i64 ((rd_T41 l0_1 x4_2).f1)):=(blk_cell BK120.out 1).trans rfl
             have hcz39_2:wc.cell? ⟨gb120,2,none⟩=some (.slice A119_2 ((rd_T41 l0_1 x4_2).f2).length c119_2):=(blk_cell BK120.out 2).trans rfl
             have hfz39_0:=blk_frozen BK120.out 0
             have hfz39_1:=blk_frozen BK120.out 1
             have hfz39_2:=blk_frozen BK120.out 2
             go_wp2
             repeat (go_quiet (fail);try go_wp2)
             go_meet
             case rel=>exact ⟨_,(false),(by first|rfl|(simp;done)|(simp [*];done)),H',⟨by have:=HJ2.out;have:=HK2.out;have:=HJ10.out;first|omega|exact Nat.le_refl _⟩,⟨by (with_reducible repeat (first|refine blk_drewN ?_ _|refine blk_drew ?_|refine blk_alloc ?_ _));exact BK117.out⟩,⟨by (with_reducible repeat (first|refine blk_drewN ?_ _|refine blk_drew ?_|refine blk_alloc ?_ _));exact BK120.out⟩,⟨by repeat (first|(with_reducible first|exact HB.out|apply below_alloc|apply pw_below_drewN|apply below_drew1|refine below_set ?_ GE117.out|refine below_set ?_ GE120.out)|exact HB.out)⟩⟩
            ·
             rw [if_neg c37] at H
             have c37b0:(((rd_T41 l0_1 x4_2).f1) == 0)=false:=beq_eq_false_iff_ne.mpr c37
             have c37b1:(((rd_T41 l0_1 x4_2).f1) != 0)=true:=bne_iff_ne.mpr c37
             (first|rw [c37b0]|(simp only [i64_w,i32_w];rw [c37b0])|skip)
             have H':=zF H
             clear H
             have hnb40:=NB120_117.out
             have hnc40:=NB117_120.out
             have hcz41_0:wc.cell? ⟨gb120,0,none⟩=some (.int .i64 ((rd_T41 l0_1 x4_2).f0)):=(blk_cell BK120.out 0).trans rfl
             have hcz41_1:wc.cell? ⟨gb120,1,none⟩=some (.int .i64 ((rd_T41 l0_1 x4_2).f1)):=(blk_cell BK120.out 1).trans rfl
             have hcz41_2:wc.cell? ⟨gb120,2,none⟩=some (.slice A119_2 ((rd_T41 l0_1 x4_2).f2).length c119_2):=(blk_cell BK120.out 2).trans rfl
             have hfz41_0:=blk_frozen BK120.out 0
             have hfz41_1:=blk_frozen BK120.out 1
             have hfz41_2:=blk_frozen BK120.out 2
             go_wp2
             repeat (go_quiet (fail);try go_wp2)
             go_meet
             case rel=>exact ⟨_,(!t122),(by first|rfl|(simp;done)|(simp [*];done)),H',⟨by have:=HJ2.out;have:=HK2.out;have:=HJ10.out;first|omega|exact Nat.le_refl _⟩,⟨by (with_reducible repeat (first|refine blk_drewN ?_ _|refine blk_drew ?_|refine blk_alloc ?_ _));exact BK117.out⟩,⟨by (with_reducible repeat (first|refine blk_drewN ?_ _|refine blk_drew ?_|refine blk_alloc ?_ _));exact BK120.out⟩,⟨by repeat (first|(with_reducible first|exact HB.out|apply below_alloc|apply pw_below_drewN|apply below_drew1|refine below_set ?_ GE117.out|refine below_set ?_ GE120.out)|exact HB.out)⟩⟩
           case rest =>
            clear HC33
            try clear c1
            try clear p1
            try clear q1
            try clear hx1
            try clear c2
            try clear p2
            try clear c3
            try clear c4
            try clear c6
            try clear p6
            try clear c8
            try clear c9
            try clear c9b0
            try clear c10
            try clear c10b0
            try clear c11
            try clear p11
            try clear q11
            try clear hx11
            try clear c12
            try clear p12
            try clear q12
            try clear hx12
            try clear c14
            try clear c16
            try clear c16b0
            try clear c17
            try clear c19
            try clear c19b0
            try clear c20
            try clear c22
            try clear c22b0
            try clear c24
            try clear c24b0
            try clear c25
            try clear c25b0
            try clear c26
            try clear c29
            try clear c31
            try clear c34
            try clear c37
            try clear c37b0
            try clear c37b1
            try clear c38
            try clear c40
            try clear hcz12_0
            try clear hcz12_1
            try clear hcz15_0
            try clear hcz15_1
            try clear hcz15_2
            try clear hcz18_0
            try clear hcz18_1
            try clear hcz18_2
            try clear hcz21_0
            try clear hcz21_1
            try clear hcz21_2
            try clear hcz27_0
            try clear hcz27_1
            try clear hcz27_2
            try clear hcz28_0
            try clear hcz28_1
            try clear hcz30_0
            try clear hcz30_1
            try clear hcz30_2
            try clear hcz35_0
            try clear hcz35_1
            try clear hcz36_0
            try clear hcz36_1
            try clear hcz36_2
            try clear hcz39_0
            try clear hcz39_1
            try clear hcz39_2
            try clear hcz41_0
            try clear hcz41_1
            try clear hcz41_2
            try clear hcz5_0
            try clear hcz5_1
            try clear hcz7_0
            try clear hcz7_1
            try clear hfz12_0
            try clear hfz12_1
            try clear hfz15_0
            try clear hfz15_1
            try clear hfz15_2
            try clear hfz18_0
            try clear hfz18_1
            try clear hfz18_2
            try clear hfz21_0
            try clear hfz21_1
            try clear hfz21_2
            try clear hfz27_0
            try clear hfz27_1
            try clear hfz27_2
            try clear hfz28_0
            try clear hfz28_1
            try clear hfz30_0
            try clear hfz30_1
            try clear hfz30_2
            try clear hfz35_0
            try clear hfz35_1
            try clear hfz36_0
            try clear hfz36_1
            try clear hfz36_2
            try clear hfz39_0
            try clear hfz39_1
            try clear hfz39_2
            try clear hfz41_0
            try clear hfz41_1
            try clear hfz41_2
            try clear hfz5_0
            try clear hfz5_1
            try clear hfz7_0
            try clear hfz7_1
            try clear hx119_0
            try clear hx119_1
            try clear hx119_2
            try clear hx121_0
            try clear hx121_1
            try clear hx121_2
            try clear p1
            try clear p11
            try clear p119
            try clear p12
            try clear p121
            try clear p2
            try clear p6
            try clear q1
            try clear q11
            try clear q119
            try clear q12
            try clear q121
            obtain ⟨kq,x68_32,rfl,HA,HJ32,BK117,BK120,HB⟩:=hcut
            cases kq with
            | zero=>exact absurd HA.out (by simp [cohousingref23_Valid.j3])
            | succ kj32 =>
             have H:=HA.out
             clear HA
             simp only [cohousingref23_Valid.j3] at H
             by_cases c42:x68_32=true
             ·
              subst c42
              have H1:(some false)=some r:=by rw [if_pos rfl] at H;exact H
              clear H
              have H:=H1
              clear H1
              obtain rfl:=Option.some.inj H
              go_wp2
              repeat (go_quiet (fail);try go_wp2)
              go_ret
              exact ⟨by first|rfl|(simp [errW_none,errW_some] <;> rfl)|(simp [*,errW_none,errW_some] <;> rfl),by repeat (first|(with_reducible first|exact HB.out|apply below_alloc|apply pw_below_drewN|apply below_drew1|refine below_set ?_ GE117.out|refine below_set ?_ GE120.out)|exact HB.out)⟩
             ·
              replace c42:=Bool.eq_false_iff.mpr c42
              subst c42
              have H1:(cohousingref23_Valid.l1 kj32 x4_2 0 l0_0 l0_1 ((rd_T41 l0_1 x4_2).f0) ((rd_T41 l0_1 x4_2).f1) ((rd_T41 l0_1 x4_2).f2))=some r:=by rw [if_neg (show ¬ (false=true) by decide)] at H;exact H
              clear H
              have H:=H1
              clear H1
              have H':=zF H
              clear H
              go_wp2
              repeat (go_quiet (fail);try go_wp2)
              go_loopg [7] kj32 (fun kq v7 w'=>∃ (x7_5:Int),v7 = .int .i64 x7_5∧Aside0 (cohousingref23_Valid.l1 kq x4_2 x7_5 l0_0 l0_1 ((rd_T41 l0_1 x4_2).f0) ((rd_T41 l0_1 x4_2).f1) ((rd_T41 l0_1 x4_2).f2)=some r)∧Aside0 (kq≤kj32)∧Aside0 (w'.heap[gb117]? = some (.cells #[(.slice A0_0 l0_0.length c0_0),(.slice (some ad119) l0_1.length c0_1)] 25 (0,0)))∧Aside0 (w'.heap[gb120]? = some (.cells #[.int .i64 ((rd_T41 l0_1 x4_2).f0),.int .i64 ((rd_T41 l0_1 x4_2).f1),(.slice A119_2 ((rd_T41 l0_1 x4_2).f2).length c119_2)] 41 (0,0)))∧Aside0 (Below w.heap.size w w'))
              case atStart=>exact ⟨(0),(by first|rfl|(simp;done)|(simp [*];done)),H',⟨Nat.le_refl _⟩,⟨by (with_reducible repeat (first|refine blk_drewN ?_ _|refine blk_drew ?_|refine blk_alloc ?_ _));exact BK117.out⟩,⟨by (with_reducible repeat (first|refine blk_drewN ?_ _|refine blk_drew ?_|refine blk_alloc ?_ _));exact BK120.out⟩,⟨by repeat (first|(with_reducible first|exact HB.out|apply below_alloc|apply pw_below_drewN|apply below_drew1|refine below_set ?_ GE117.out|refine below_set ?_ GE120.out)|exact HB.out)⟩⟩
              case round =>
               clear H'
               try clear c1
               try clear p1
               try clear q1
               try clear hx1
               try clear c2
               try clear p2
               try clear c3
               try clear c4
               try clear c6
               try clear p6
               try clear c8
               try clear c9
               try clear c9b0
               try clear c10
               try clear c10b0
               try clear c11
               try clear p11
               try clear q11
               try clear hx11
               try clear c12
               try clear p12
               try clear q12
               try clear hx12
               try clear c14
               try clear c16
               try clear c16b0
               try clear c17
               try clear c19
               try clear c19b0
               try clear c20
               try clear c22
               try clear c22b0
               try clear c24
               try clear c24b0
               try clear c25
               try clear c25b0
               try clear c26
               try clear c29
               try clear c31
               try clear c34
               try clear c37
               try clear c37b0
               try clear c37b1
               try clear c38
               try clear c40
               try clear c42
               try clear hcz12_0
               try clear hcz12_1
               try clear hcz15_0
               try clear hcz15_1
               try clear hcz15_2
               try clear hcz18_0
               try clear hcz18_1
               try clear hcz18_2
               try clear hcz21_0
               try clear hcz21_1
               try clear hcz21_2
               try clear hcz27_0
               try clear hcz27_1
               try clear hcz27_2
               try clear hcz28_0
               try clear hcz28_1
               try clear hcz30_0
               try clear hcz30_1
               try clear hcz30_2
               try clear hcz35_0
               try clear hcz35_1
               try clear hcz36_0
               try clear hcz36_1
               try clear hcz36_2
               try clear hcz39_0
               try clear hcz39_1
               try clear hcz39_2
               try clear hcz41_0
               try clear hcz41_1
               try clear hcz41_2
               try clear hcz5_0
               try clear hcz5_1
               try clear hcz7_0
               try clear hcz7_1
               try clear hfz12_0
               try clear hfz12_1
               try clear hfz15_0
               try clear hfz15_1
               try clear hfz15_2
               try clear hfz18_0
               try clear hfz18_1
               try clear hfz18_2
               try clear hfz21_0
               try clear hfz21_1
               try clear hfz21_2
               try clear hfz27_0
               try clear hfz27_1
               try clear hfz27_2
               try clear hfz28_0
               try clear hfz28_1
               try clear hfz30_0
               try clear hfz30_1
               try clear hfz30_2
               try clear hfz35_0
               try clear hfz35_1
               try clear hfz36_0
               try clear hfz36_1
               try clear hfz36_2
               try clear hfz39_0
               try clear hfz39_1
               try clear hfz39_2
               try clear hfz41_0
               try clear hfz41_1
               try clear hfz41_2
               try clear hfz5_0
               try clear hfz5_1
               try clear hfz7_0
               try clear hfz7_1
               try clear hx119_0
               try clear hx119_1
               try clear hx119_2
               try clear hx121_0
               try clear hx121_1
               try clear hx121_2
               try clear p1
               try clear p11
               try clear p119
               try clear p12
               try clear p121
               try clear p2
               try clear p6
               try clear q1
               try clear q11
               try clear q119
               try clear q12
               try clear q121
               obtain ⟨x7_5,rfl,HA,HK5,BK117,BK120,HB⟩:=hrel
               cases gk with
               | zero=>exact absurd HA.out (by simp [cohousingref23_Valid.l1])
               | succ k5 =>
                have H:=HA.out
                clear HA
                simp only [cohousingref23_Valid.l1] at H
                by_cases c43:x7_5 < x4_2
                ·
                 rw [if_pos c43] at H
                 have c43b0:decide (x7_5 < x4_2)=true:=decide_eq_true c43
                 clear c43
                 by_cases c44:((rd_T41 l0_1 x4_2).f1)=0
                 ·
                  rw [if_pos c44] at H
                  have c44b0:(((rd_T41 l0_1 x4_2).f1) == 0)=true:=beq_iff_eq.mpr c44
                  have c44b1:(((rd_T41 l0_1 x4_2).f1) != 0)=false:=bne_eq_false_iff_eq.mpr c44
                  clear c44
                  have H':=zF H
                  clear H
                  have hnb45:=NB120_117.out
                  have hnc45:=NB117_120.out
                  have hcz46_0:wr.cell? ⟨gb120,0,none⟩=some (.int .i64 ((rd_T41 l0_1 x4_2).f0)):=(blk_cell BK120.out 0).trans rfl
                  have hcz46_1:wr.cell? ⟨gb120,1,none⟩=some (.int .i64 ((rd_T41 l0_1 x4_2).f1)):=(blk_cell BK120.out 1).trans rfl
                  have hcz46_2:wr.cell? ⟨gb120,2,none⟩=some (.slice A119_2 ((rd_T41 l0_1 x4_2).f2).length c119_2):=(blk_cell BK120.out 2).trans rfl
                  have hfz46_0:=blk_frozen BK120.out 0
                  have hfz46_1:=blk_frozen BK120.out 1
                  have hfz46_2:=blk_frozen BK120.out 2
                  go_wp2
                  repeat (go_quiet (fail);try go_wp2)
                  go_roundg k5
                  case measure=>have:=HJ2.out;have:=HK2.out;have:=HJ10.out;have:=HJ32.out;have:=HK5.out;omega
                  case rel=>exact ⟨(wrap64 (x7_5 + 1)),(by first|rfl|(simp;done)|(simp [*];done)),H',⟨by have:=HJ2.out;have:=HK2.out;have:=HJ10.out;have:=HJ32.out;have:=HK5.out;omega⟩,⟨by (with_reducible repeat (first|refine blk_drewN ?_ _|refine blk_drew ?_|refine blk_alloc ?_ _));exact BK117.out⟩,⟨by (with_reducible repeat (first|refine blk_drewN ?_ _|refine blk_drew ?_|refine blk_alloc ?_ _));exact BK120.out⟩,⟨by repeat (first|(with_reducible first|exact HB.out|apply below_alloc|apply pw_below_drewN|apply below_drew1|refine below_set ?_ GE117.out|refine below_set ?_ GE120.out)|exact HB.out)⟩⟩
                 ·
                  rw [if_neg c44] at H
                  have c44b0:(((rd_T41 l0_1 x4_2).f1) == 0)=false:=beq_eq_false_iff_ne.mpr c44
                  have c44b1:(((rd_T41 l0_1 x4_2).f1) != 0)=true:=bne_iff_ne.mpr c44
                  by_cases c47:0≤x7_5
                  ·
                   rw [if_pos c47] at H
                   have c47b0:decide (0≤x7_5)=true:=decide_eq_true c47
                   clear c47
                   by_cases c48:x7_5 < (l0_1.length:Int)
                   ·
                    rw [if_pos c48] at H
                    have c48b0:decide (x7_5 < (l0_1.length:Int))=true:=decide_eq_true c48
                    clear c48
                    by_cases c49:((rd_T41 l0_1 x7_5).f1)=((rd_T41 l0_1 x4_2).f1)
                    ·
                     rw [if_pos c49] at H
                     have c49b0:(((rd_T41 l0_1 x7_5).f1) == ((rd_T41 l0_1 x4_2).f1))=true:=beq_iff_eq.mpr c49
                     have c49b1:(((rd_T41 l0_1 x7_5).f1) != ((rd_T41 l0_1 x4_2).f1))=false:=bne_eq_false_iff_eq.mpr c49
                     clear c49
                     obtain rfl:=Option.some.inj H
                     have hnb50:=NB120_117.out
                     have hnc50:=NB117_120.out
                     have hcz51_0:wr.cell? ⟨gb120,0,none⟩=some (.int .i64 ((rd_T41 l0_1 x4_2).f0)):=(blk_cell BK120.out 0).trans rfl
                     have hcz51_1:wr.cell? ⟨gb120,1,none⟩=some (.int .i64 ((rd_T41 l0_1 x4_2).f1)):=(blk_cell BK120.out 1).trans rfl
                     have hcz51_2:wr.cell? ⟨gb120,2,none⟩=some (.slice A119_2 ((rd_T41 l0_1 x4_2).f2).length c119_2):=(blk_cell BK120.out 2).trans rfl
                     have hfz51_0:=blk_frozen BK120.out 0
                     have hfz51_1:=blk_frozen BK120.out 1
                     have hfz51_2:=blk_frozen BK120.out 2
                     have hcz52_0:wr.cell? ⟨gb117,0,none⟩=some (.slice A0_0 l0_0.length c0_0):=(blk_cell BK117.out 0).trans rfl
                     have hcz52_1:wr.cell? ⟨gb117,1,none⟩=some (.slice (some ad119) l0_1.length c0_1):=(blk_cell BK117.out 1).trans rfl
                     have hfz52_0:=blk_frozen BK117.out 0
                     have hfz52_1:=blk_frozen BK117.out 1
                     have p123:0≤(x7_5:Int):=zE (by first|(with_reducible assumption)|assumption)
                     have q123:x7_5 < (l0_1.length:Int):=zE (by first|(with_reducible assumption)|assumption)
                     obtain ⟨ad123,A123_2,c123_2,e123,hx123_0,hx123_1,hx123_2,hl123_2,hi123_2⟩:=at_T41 HR0_1.out x7_5 p123 q123
                     obtain rfl:ad119=ad123:=(by injection e123)
                     replace hx123_0:=(HB.out.cell (World.block_lt_of_cell? w _ hx123_0)).trans hx123_0
                     replace hx123_1:=(HB.out.cell (World.block_lt_of_cell? w _ hx123_1)).trans hx123_1
                     replace hx123_2:=(HB.out.cell (World.block_lt_of_cell? w _ hx123_2)).trans hx123_2
                     have HR123_2:=zF hi123_2
                     have HC123_2:=zF hl123_2
                     clear hi123_2 hl123_2
                     replace p123:=eq_true p123
                     replace q123:=eq_true q123
                     go_wp2
                     repeat (go_quiet (fail);try go_wp2)
                     go_ret
                     exact ⟨by first|rfl|(simp [errW_none,errW_some] <;> rfl)|(simp [*,errW_none,errW_some] <;> rfl),by repeat (first|(with_reducible first|exact HB.out|apply below_alloc|apply pw_below_drewN|apply below_drew1|refine below_set ?_ GE117.out|refine below_set ?_ GE120.out)|exact HB.out)⟩
                    ·
                     rw [if_neg c49] at H
                     have c49b0:(((rd_T41 l0_1 x7_5).f1) == ((rd_T41 l0_1 x4_2).f1))=false:=beq_eq_false_iff_ne.mpr c49
                     have c49b1:(((rd_T41 l0_1 x7_5).f1) != ((rd_T41 l0_1 x4_2).f1))=true:=bne_iff_ne.mpr c49
                     have H':=zF H
                     clear H
                     have hnb53:=NB120_117.out
                     have hnc53:=NB117_120.out
                     have hcz54_0:wr.cell? ⟨gb120,0,none⟩=some (.int .i64 ((rd_T41 l0_1 x4_2).f0)):=(blk_cell BK120.out 0).trans rfl
                     have hcz54_1:wr.cell? ⟨gb120,1,none⟩=some (.int .i64 ((rd_T41 l0_1 x4_2).f1)):=(blk_cell BK120.out 1).trans rfl
                     have hcz54_2:wr.cell? ⟨gb120,2,none⟩=some (.slice A119_2 ((rd_T41 l0_1 x4_2).f2).length c119_2):=(blk_cell BK120.out 2).trans rfl
                     have hfz54_0:=blk_frozen BK120.out 0
                     have hfz54_1:=blk_frozen BK120.out 1
                     have hfz54_2:=blk_frozen BK120.out 2
                     have hcz55_0:wr.cell? ⟨gb117,0,none⟩=some (.slice A0_0 l0_0.length c0_0):=(blk_cell BK117.out 0).trans rfl
                     have hcz55_1:wr.cell? ⟨gb117,1,none⟩=some (.slice (some ad119) l0_1.length c0_1):=(blk_cell BK117.out 1).trans rfl
                     have hfz55_0:=blk_frozen BK117.out 0
                     have hfz55_1:=blk_frozen BK117.out 1
                     have p123:0≤(x7_5:Int):=zE (by first|(with_reducible assumption)|assumption)
                     have q123:x7_5 < (l0_1.length:Int):=zE (by first|(with_reducible assumption)|assumption)
                     obtain ⟨ad123,A123_2,c123_2,e123,hx123_0,hx123_1,hx123_2,hl123_2,hi123_2⟩:=at_T41 HR0_1.out x7_5 p123 q123
                     obtain rfl:ad119=ad123:=(by injection e123)
                     replace hx123_0:=(HB.out.cell (World.block_lt_of_cell? w _ hx123_0)).trans hx123_0
                     replace hx123_1:=(HB.out.cell (World.block_lt_of_cell? w _ hx123_1)).trans hx123_1
                     replace hx123_2:=(HB.out.cell (World.block_lt_of_cell? w _ hx123_2)).trans hx123_2
                     have HR123_2:=zF hi123_2
                     have HC123_2:=zF hl123_2
                     clear hi123_2 hl123_2
                     replace p123:=eq_true p123
                     replace q123:=eq_true q123
                     go_wp2
                     repeat (go_quiet (fail);try go_wp2)
                     go_roundg k5
                     case measure=>have:=HJ2.out;have:=HK2.out;have:=HJ10.out;have:=HJ32.out;have:=HK5.out;omega
                     case rel=>exact ⟨(wrap64 (x7_5 + 1)),(by first|rfl|(simp;done)|(simp [*];done)),H',⟨by have:=HJ2.out;have:=HK2.out;have:=HJ10.out;have:=HJ32.out;have:=HK5.out;omega⟩,⟨by (with_reducible repeat (first|refine blk_drewN ?_ _|refine blk_drew ?_|refine blk_alloc ?_ _));exact BK117.out⟩,⟨by (with_reducible repeat (first|refine blk_drewN ?_ _|refine blk_drew ?_|refine blk_alloc ?_ _));exact BK120.out⟩,⟨by repeat (first|(with_reducible first|exact HB.out|apply below_alloc|apply pw_below_drewN|apply below_drew1|refine below_set ?_ GE117.out|refine below_set ?_ GE120.out)|exact HB.out)⟩⟩
                   ·
                    rw [if_neg c48] at H
                    exact absurd H (by simp)
                  ·
                   rw [if_neg c47] at H
                   exact absurd H (by simp)
                ·
                 rw [if_neg c43] at H
                 have c43b0:decide (x7_5 < x4_2)=false:=decide_eq_false c43
                 clear c43
                 have H':=zF H
                 clear H
                 go_wp2
                 repeat (go_quiet (fail);try go_wp2)
                 go_loopg [8] k5 (fun kq v8 w'=>∃ (x8_6:Int),v8 = .int .i64 x8_6∧Aside0 (cohousingref23_Valid.l2 kq x4_2 x8_6 l0_0 l0_1 ((rd_T41 l0_1 x4_2).f0) ((rd_T41 l0_1 x4_2).f1) ((rd_T41 l0_1 x4_2).f2)=some r)∧Aside0 (kq≤k5)∧Aside0 (w'.heap[gb117]? = some (.cells #[(.slice A0_0 l0_0.length c0_0),(.slice (some ad119) l0_1.length c0_1)] 25 (0,0)))∧Aside0 (w'.heap[gb120]? = some (.cells #[.int .i64 ((rd_T41 l0_1 x4_2).f0),.int .i64 ((rd_T41 l0_1 x4_2).f1),(.slice A119_2 ((rd_T41 l0_1 x4_2).f2).length c119_2)] 41 (0,0)))∧Aside0 (Below w.heap.size w w'))
                 case atStart=>exact ⟨(0),(by first|rfl|(simp;done)|(simp [*];done)),H',⟨Nat.le_refl _⟩,⟨by (with_reducible repeat (first|refine blk_drewN ?_ _|refine blk_drew ?_|refine blk_alloc ?_ _));exact BK117.out⟩,⟨by (with_reducible repeat (first|refine blk_drewN ?_ _|refine blk_drew ?_|refine blk_alloc ?_ _));exact BK120.out⟩,⟨by repeat (first|(with_reducible first|exact HB.out|apply below_alloc|apply pw_below_drewN|apply below_drew1|refine below_set ?_ GE117.out|refine below_set ?_ GE120.out)|exact HB.out)⟩⟩
                 case round =>
                  clear H'
                  try clear c1
                  try clear p1
                  try clear q1
                  try clear hx1
                  try clear c2
                  try clear p2
                  try clear c3
                  try clear c4
                  try clear c5
                  try clear c6
                  try clear p6
                  try clear c8
                  try clear c9
                  try clear c9b0
                  try clear c10
                  try clear c10b0
                  try clear c11
                  try clear p11
                  try clear q11
                  try clear hx11
                  try clear c12
                  try clear p12
                  try clear q12
                  try clear hx12
                  try clear c14
                  try clear c16
                  try clear c16b0
                  try clear c17
                  try clear c19
                  try clear c19b0
                  try clear c20
                  try clear c22
                  try clear c22b0
                  try clear c24
                  try clear c24b0
                  try clear c25
                  try clear c25b0
                  try clear c26
                  try clear c29
                  try clear c31
                  try clear c34
                  try clear c37
                  try clear c37b0
                  try clear c37b1
                  try clear c38
                  try clear c40
                  try clear c42
                  try clear c43
                  try clear c43b0
                  try clear c44
                  try clear c44b0
                  try clear c44b1
                  try clear c45
                  try clear c47
                  try clear c47b0
                  try clear c48
                  try clear c48b0
                  try clear c49
                  try clear c49b0
                  try clear c49b1
                  try clear c50
                  try clear c53
                  try clear hcz12_0
                  try clear hcz12_1
                  try clear hcz15_0
                  try clear hcz15_1
                  try clear hcz15_2
                  try clear hcz18_0
                  try clear hcz18_1
                  try clear hcz18_2
                  try clear hcz21_0
                  try clear hcz21_1
                  try clear hcz21_2
                  try clear hcz27_0
                  try clear hcz27_1
                  try clear hcz27_2
                  try clear hcz28_0
                  try clear hcz28_1
                  try clear hcz30_0
                  try clear hcz30_1
                  try clear hcz30_2
                  try clear hcz35_0
                  try clear hcz35_1
                  try clear hcz36_0
                  try clear hcz36_1
                  try clear hcz36_2
                  try clear hcz39_0
                  try clear hcz39_1
                  try clear hcz39_2
                  try clear hcz41_0
                  try clear hcz41_1
                  try clear hcz41_2
                  try clear hcz46_0
                  try clear hcz46_1
                  try clear hcz46_2
                  try clear hcz51_0
                  try clear hcz51_1
                  try clear hcz51_2
                  try clear hcz52_0
                  try clear hcz52_1
                  try clear hcz54_0
                  try clear hcz54_1
                  try clear hcz54_2
                  try clear hcz55_0
                  try clear hcz55_1
                  try clear hcz5_0
                  try clear hcz5_1
                  try clear hcz7_0
                  try clear hcz7_1
                  try clear hfz12_0
                  try clear hfz12_1
                  try clear hfz15_0
                  try clear hfz15_1
                  try clear hfz15_2
                  try clear hfz18_0
                  try clear hfz18_1
                  try clear hfz18_2
                  try clear hfz21_0
                  try clear hfz21_1
                  try clear hfz21_2
                  try clear hfz27_0
                  try clear hfz27_1
                  try clear hfz27_2
                  try clear hfz28_0
                  try clear hfz28_1
                  try clear hfz30_0
                  try clear hfz30_1
                  try clear hfz30_2
                  try clear hfz35_0
                  try clear hfz35_1
                  try clear hfz36_0
                  try clear hfz36_1
                  try clear hfz36_2
                  try clear hfz39_0
                  try clear hfz39_1
                  try clear hfz39_2
                  try clear hfz41_0
                  try clear hfz41_1
                  try clear hfz41_2
                  try clear hfz46_0
                  try clear hfz46_1
                  try clear hfz46_2
                  try clear hfz51_0
                  try clear hfz51_1
                  try clear hfz51_2
                  try clear hfz52_0
                  try clear hfz52_1
                  try clear hfz54_0
                  try clear hfz54_1
                  try clear hfz54_2
                  try clear hfz55_0
                  try clear hfz55_1
                  try clear hfz5_0
                  try clear hfz5_1
                  try clear hfz7_0
                  try clear hfz7_1
                  try clear hx119_0
                  try clear hx119_1
                  try clear hx119_2
                  try clear hx121_0
                  try clear hx121_1
                  try clear hx121_2
                  try clear hx123_0
                  try clear hx123_1
                  try clear hx123_2
                  try clear p1
                  try clear p11
                  try clear p119
                  try clear p12
                  try clear p121
                  try clear p123
                  try clear p2
                  try clear p6
                  try clear q1
                  try clear q11
                  try clear q119
                  try clear q12
                  try clear q121
                  try clear q123
                  obtain ⟨x8_6,rfl,HA,HK6,BK117,BK120,HB⟩:=hrel
                  cases gk with
                  | zero=>exact absurd HA.out (by simp [cohousingref23_Valid.l2])
                  | succ k6 =>
                   have H:=HA.out
                   clear HA
                   simp only [cohousingref23_Valid.l2] at H
                   by_cases c56:x8_6 < (((rd_T41 l0_1 x4_2).f2).length:Int)
                   ·
                    rw [if_pos c56] at H
                    have c56b0:decide (x8_6 < (((rd_T41 l0_1 x4_2).f2).length:Int))=true:=decide_eq_true c56
                    clear c56
                    by_cases c57:0≤x8_6
                    ·
                     rw [if_pos c57] at H
                     have c57b0:decide (0≤x8_6)=true:=decide_eq_true c57
                     clear c57
                     replace H:=Option.bind_eq_some_iff.mp H
                     obtain ⟨t125,A580,H⟩:=H
                     replace H:(if t125=true then ((cohousingref23_In.f k6 ((rd_T41 l0_1 x4_2).f2) (rd ((rd_T41 l0_1 x4_2).f2) x8_6)).bind fun t127=>(if t127=x8_6 then (cohousingref23_Valid.l2 k6 x4_2 (wrap64 (x8_6 + 1)) l0_0 l0_1 ((rd_T41 l0_1 x4_2).f0) ((rd_T41 l0_1 x4_2).f1) ((rd_T41 l0_1 x4_2).f2)) else (some false))) else (some false))=some r:=H
                     have A58:=zF A580
                     clear A580
                     by_cases c59:t125=true
                     ·
                      subst c59
                      have H1:((cohousingref23_In.f k6 ((rd_T41 l0_1 x4_2).f2) (rd ((rd_T41 l0_1 x4_2).f2) x8_6)).bind fun t127=>(if t127=x8_6 then (cohousingref23_Valid.l2 k6 x4_2 (wrap64 (x8_6 + 1)) l0_0 l0_1 ((rd_T41 l0_1 x4_2).f0) ((rd_T41 l0_1 x4_2).f1) ((rd_T41 l0_1 x4_2).f2)) else (some false)))=some r:=by rw [if_pos rfl] at H;exact H
                      clear H
                      have H:=H1
                      clear H1
                      replace H:=Option.bind_eq_some_iff.mp H
                      obtain ⟨t127,A600,H⟩:=H
                      replace H:(if t127=x8_6 then (cohousingref23_Valid.l2 k6 x4_2 (wrap64 (x8_6 + 1)) l0_0 l0_1 ((rd_T41 l0_1 x4_2).f0) ((rd_T41 l0_1 x4_2).f1) ((rd_T41 l0_1 x4_2).f2)) else (some false))=some r:=H
                      have A60:=zF A600
                      clear A600
                      by_cases c61:t127=x8_6
                      ·
                       rw [if_pos c61] at H
                       have c61b0:(t127 == x8_6)=true:=beq_iff_eq.mpr c61
                       have c61b1:(t127 != x8_6)=false:=bne_eq_false_iff_eq.mpr c61
                       clear c61
                       have H':=zF H
                       clear H
                       have hnb62:=NB120_117.out
                       have hnc62:=NB117_120.out
                       have hcz63_0:wr.cell? ⟨gb120,0,none⟩=some (.int .i64 ((rd_T41 l0_1 x4_2).f0)):=(blk_cell BK120.out 0).trans rfl
                       have hcz63_1:wr.cell? ⟨gb120,1,none⟩=some (.int .i64 ((rd_T41 l0_1 x4_2).f1)):=(blk_cell BK120.out 1).trans rfl
                       have hcz63_2:wr.cell? ⟨gb120,2,none⟩=some (.slice A119_2 ((rd_T41 l0_1 x4_2).f2).length c119_2):=(blk_cell BK120.out 2).trans rfl
                       have hfz63_0:=blk_frozen BK120.out 0
                       have hfz63_1:=blk_frozen BK120.out 1
                       have hfz63_2:=blk_frozen BK120.out 2
                       have hcz64_0:wr.cell? ⟨gb117,0,none⟩=some (.slice A0_0 l0_0.length c0_0):=(blk_cell BK117.out 0).trans rfl
                       have hcz64_1:wr.cell? ⟨gb117,1,none⟩=some (.slice (some ad119) l0_1.length c0_1):=(blk_cell BK117.out 1).trans rfl
                       have hfz64_0:=blk_frozen BK117.out 0
                       have hfz64_1:=blk_frozen BK117.out 1
                       have p124:0≤(x8_6:Int):=zE (by first|(with_reducible assumption)|assumption)
                       have q124:x8_6 < (((rd_T41 l0_1 x4_2).f2).length:Int):=zE (by first|(with_reducible assumption)|assumption)
                       obtain ⟨ad124,e124,hx124_0⟩:=Kd.at_int HR119_2.out x8_6 p124 q124
                       cases e124
                       replace hx124_0:=(HB.out.cell (World.block_lt_of_cell? w _ hx124_0)).trans hx124_0
                       replace p124:=eq_true p124
                       replace q124:=eq_true q124
                       go_wp2_with (first|(go_at_call 25;(with_reducible refine (cohousingref23_Has.calls k6 _ _ l0_0 (rd ((rd_T41 l0_1 x4_2).f2) x8_6) true _ ?side1 ?side2 A58.out).mono ?_);(case side1=>repeat (first|exact (Kd.C_below HR0_0.out HB.out)|(with_reducible refine Kd.C_alloc ?_ _)|(with_reducible refine Kd.C_drewN ?_ _)|(with_reducible refine Kd.C_drew ?_)));(case side2=>exact HC0_0.out);rintro e w' ⟨rfl,⟨nd,rfl⟩⟩;(try first|exact ⟨rfl,_,World.drewN_drewN _ _ _⟩|exact ⟨rfl,_,Eq.trans (World.drewN_drewN _ _ _) (congrArg (World.drewN _) (Nat.add_assoc _ _ _))⟩);have p126:0≤(x8_6:Int):=zE (by first|(with_reducible assumption)|assumption);have q126:x8_6 < (((rd_T41 l0_1 x4_2).f2).length:Int):=zE (by first|(with_reducible assumption)|assumption);obtain ⟨ad126,e126,hx126_0⟩:=Kd.at_int HR119_2.out x8_6 p126 q126;obtain rfl:ad124=ad126:=(by injection e126);replace hx126_0:=(HB.out.cell (World.block_lt_of_cell? w _ hx126_0)).trans hx126_0;replace p126:=eq_true p126;replace q126:=eq_true q126)|(go_at_call 24;(with_reducible refine (cohousingref23_In.calls k6 _ _ ((rd_T41 l0_1 x4_2).f2) (rd ((rd_T41 l0_1 x4_2).f2) x8_6) t127 _ ?side1 ?side2 A60.out).mono ?_);(case side1=>repeat (first|exact (Kd.C_below HR119_2.out (by repeat (first|(with_reducible first|exact HB.out|apply below_alloc|apply pw_below_drewN|apply below_drew1|refine below_set ?_ GE117.out|refine below_set ?_ GE120.out)|exact HB.out)))|(with_reducible refine Kd.C_alloc ?_ _)|(with_reducible refine Kd.C_drewN ?_ _)|(with_reducible refine Kd.C_drew ?_)));(case side2=>exact HC119_2.out);rintro e w' ⟨rfl,⟨nd,rfl⟩⟩;(try first|exact ⟨rfl,_,World.drewN_drewN _ _ _⟩|exact ⟨rfl,_,Eq.trans (World.drewN_drewN _ _ _) (congrArg (World.drewN _) (Nat.add_assoc _ _ _))⟩)))
                       repeat (go_quiet (first|(go_at_call 25;(with_reducible refine (cohousingref23_Has.calls k6 _ _ l0_0 (rd ((rd_T41 l0_1 x4_2).f2) x8_6) true _ ?side1 ?side2 A58.out).mono ?_);(case side1=>repeat (first|exact (Kd.C_below HR0_0.out HB.out)|(with_reducible refine Kd.C_alloc ?_ _)|(with_reducible refine Kd.C_drewN ?_ _)|(with_reducible refine Kd.C_drew ?_)));(case side2=>exact HC0_0.out);rintro e w' ⟨rfl,⟨nd,rfl⟩⟩;(try first|exact ⟨rfl,_,World.drewN_drewN _ _ _⟩|exact ⟨rfl,_,Eq.trans (World.drewN_drewN _ _ _) (congrArg (World.drewN _) (Nat.add_assoc _ _ _))⟩);have p126:0≤(x8_6:Int):=zE (by first|(with_reducible assumption)|assumption);have q126:x8_6 < (((rd_T41 l0_1 x4_2).f2).length:Int):=zE (by first|(with_reducible assumption)|assumption);obtain ⟨ad126,e126,hx126_0⟩:=Kd.at_int HR119_2.out x8_6 p126 q126;obtain rfl:ad124=ad126:=(by injection e126);replace hx126_0:=(HB.out.cell (World.block_lt_of_cell? w _ hx126_0)).trans hx126_0;replace p126:=eq_true p126;replace q126:=eq_true q126)|(go_at_call 24;(with_reducible refine (cohousingref23_In.calls k6 _ _ ((rd_T41 l0_1 x4_2).f2) (rd ((rd_T41 l0_1 x4_2).f2) x8_6) t127 _ ?side1 ?side2 A60.out).mono ?_);(case side1=>repeat (first|exact (Kd.C_below HR119_2.out (by repeat (first|(with_reducible first|exact HB.out|apply below_alloc|apply pw_below_drewN|apply below_drew1|refine below_set ?_ GE117.out|refine below_set ?_ GE120.out)|exact HB.out)))|(with_reducible refine Kd.C_alloc ?_ _)|(with_reducible refine Kd.C_drewN ?_ _)|(with_reducible refine Kd.C_drew ?_)));(case side2=>exact HC119_2.out);rintro e w' ⟨rfl,⟨nd,rfl⟩⟩;(try first|exact ⟨rfl,_,World.drewN_drewN _ _ _⟩|exact ⟨rfl,_,Eq.trans (World.drewN_drewN _ _ _) (congrArg (World.drewN _) (Nat.add_assoc _ _ _))⟩)));try go_wp2_with (first|(go_at_call 25;(with_reducible refine (cohousingref23_Has.calls k6 _ _ l0_0 (rd ((rd_T41 l0_1 x4_2).f2) x8_6) true _ ?side1 ?side2 A58.out).mono ?_);(case side1=>repeat (first|exact (Kd.C_below HR0_0.out HB.out)|(with_reducible refine Kd.C_alloc ?_ _)|(with_reducible refine Kd.C_drewN ?_ _)|(with_reducible refine Kd.C_drew ?_)));(case side2=>exact HC0_0.out);rintro e w' ⟨rfl,⟨nd,rfl⟩⟩;(try first|exact ⟨rfl,_,World.drewN_drewN _ _ _⟩|exact ⟨rfl,_,Eq.trans (World.drewN_drewN _ _ _) (congrArg (World.drewN _) (Nat.add_assoc _ _ _))⟩);have p126:0≤(x8_6:Int):=zE (by first|(with_reducible assumption)|assumption);have q126:x8_6 < (((rd_T41 l0_1 x4_2).f2).length:Int):=zE (by first|(with_reducible assumption)|assumption);obtain ⟨ad126,e126,hx126_0⟩:=Kd.at_int HR119_2.out x8_6 p126 q126;obtain rfl:ad124=ad126:=(by injection e126);replace hx126_0:=(HB.out.cell (World.block_lt_of_cell? w _ hx126_0)).trans hx126_0;replace p126:=eq_true p126;replace q126:=eq_true q126)|(go_at_call 24;(with_reducible refine (cohousingref23_In.calls k6 _ _ ((rd_T41 l0_1 x4_2).f2) (rd ((rd_T41 l0_1 x4_2).f2) x8_6) t127 _ ?side1 ?side2 A60.out).mono ?_);(case side1=>repeat (first|exact (Kd.C_below HR119_2.out (by repeat (first|(with_reducible first|exact HB.out|apply below_alloc|apply pw_below_drewN|apply below_drew1|refine below_set ?_ GE117.out|refine below_set ?_ GE120.out)|exact HB.out)))|(with_reducible refine Kd.C_alloc ?_ _)|(with_reducible refine Kd.C_drewN ?_ _)|(with_reducible refine Kd.C_drew ?_)));(case side2=>exact HC119_2.out);rintro e w' ⟨rfl,⟨nd,rfl⟩⟩;(try first|exact ⟨rfl,_,World.drewN_drewN _ _ _⟩|exact ⟨rfl,_,Eq.trans (World.drewN_drewN _ _ _) (congrArg (World.drewN _) (Nat.add_assoc _ _ _))⟩))))
                       go_roundg k6
                       case measure=>have:=HJ2.out;have:=HK2.out;have:=HJ10.out;have:=HJ32.out;have:=HK5.out;have:=HK6.out;omega
                       case rel=>exact ⟨(wrap64 (x8_6 + 1)),(by first|rfl|(simp;done)|(simp [*];done)),H',⟨by have:=HJ2.out;have:=HK2.out;have:=HJ10.out;have:=HJ32.out;have:=HK5.out;have:=HK6.out;omega⟩,⟨by (with_reducible repeat (first|refine blk_drewN ?_ _|refine blk_drew ?_|refine blk_alloc ?_ _));exact BK117.out⟩,⟨by (with_reducible repeat (first|refine blk_drewN ?_ _|refine blk_drew ?_|refine blk_alloc ?_ _));exact BK120.out⟩,⟨by repeat (first|(with_reducible first|exact HB.out|apply below_alloc|apply pw_below_drewN|apply below_drew1|refine below_set ?_ GE117.out|refine below_set ?_ GE120.out)|exact HB.out)⟩⟩
                      ·
                       rw [if_neg c61] at H
                       have c61b0:(t127 == x8_6)=false:=beq_eq_false_iff_ne.mpr c61
                       have c61b1:(t127 != x8_6)=true:=bne_iff_ne.mpr c61
                       obtain rfl:=Option.some.inj H
                       have hnb65:=NB120_117.out
                       have hnc65:=NB117_120.out
                       have hcz66_0:wr.cell? ⟨gb120,0,none⟩=some (.int .i64 ((rd_T41 l0_1 x4_2).f0)):=(blk_cell BK120.out 0).trans rfl
                       have hcz66_1:wr.cell? ⟨gb120,1,none⟩=some (.int .i64 ((rd_T41 l0_1 x4_2).f1)):=(blk_cell BK120.out 1).trans rfl
                       have hcz66_2:wr.cell? ⟨gb120,2,none⟩=some (.slice A119_2 ((rd_T41 l0_1 x4_2).f2).length c119_2):=(blk_cell BK120.out 2).trans rfl
                       have hfz66_0:=blk_frozen BK120.out 0
                       have hfz66_1:=blk_frozen BK120.out 1
                       have hfz66_2:=blk_frozen BK120.out 2
                       have hcz67_0:wr.cell? ⟨gb117,0,none⟩=some (.slice A0_0 l0_0.length c0_0):=(blk_cell BK117.out 0).trans rfl
                       have hcz67_1:wr.cell? ⟨gb117,1,none⟩=some (.slice (some ad119) l0_1.length c0_1):=(blk_cell BK117.out 1).trans rfl
                       have hfz67_0:=blk_frozen BK117.out 0
                       have hfz67_1:=blk_frozen BK117.out 1
                       have p124:0≤(x8_6:Int):=zE (by first|(with_reducible assumption)|assumption)
                       have q124:x8_6 < (((rd_T41 l0_1 x4_2).f2).length:Int):=zE (by first|(with_reducible assumption)|assumption)
                       obtain ⟨ad124,e124,hx124_0⟩:=Kd.at_int HR119_2.out x8_6 p124 q124
                       cases e124
                       replace hx124_0:=(HB.out.cell (World.block_lt_of_cell? w _ hx124_0)).trans hx124_0
                       replace p124:=eq_true p124
                       replace q124:=eq_true q124
                       go_wp2_with (first|(go_at_call 25;(with_reducible refine (cohousingref23_Has.calls k6 _ _ l0_0 (rd ((rd_T41 l0_1 x4_2).f2) x8_6) true _ ?side1 ?side2 A58.out).mono ?_);(case side1=>repeat (first|exact (Kd.C_below HR0_0.out HB.out)|(with_reducible refine Kd.C_alloc ?_ _)|(with_reducible refine Kd.C_drewN ?_ _)|(with_reducible refine Kd.C_drew ?_)));(case side2=>exact HC0_0.out);rintro e w' ⟨rfl,⟨nd,rfl⟩⟩;(try first|exact ⟨rfl,_,World.drewN_drewN _ _ _⟩|exact ⟨rfl,_,Eq.trans (World.drewN_drewN _ _ _) (congrArg (World.drewN _) (Nat.add_assoc _ _ _))⟩);have p126:0≤(x8_6:Int):=zE (by first|(with_reducible assumption)|assumption);have q126:x8_6 < (((rd_T41 l0_1 x4_2).f2).length:Int):=zE (by first|(with_reducible assumption)|assumption);obtain ⟨ad126,e126,hx126_0⟩:=Kd.at_int HR119_2.out x8_6 p126 q126;obtain rfl:ad124=ad126:=(by injection e126);replace hx126_0:=(HB.out.cell (World.block_lt_of_cell? w _ hx126_0)).trans hx126_0;replace p126:=eq_true p126;replace q126:=eq_true q126)|(go_at_call 24;(with_reducible refine (cohousingref23_In.calls k6 _ _ ((rd_T41 l0_1 x4_2).f2) (rd ((rd_T41 l0_1 x4_2).f2) x8_6) t127 _ ?side1 ?side2 A60.out).mono ?_);(case side1=>repeat (first|exact (Kd.C_below HR119_2.out (by repeat (first|(with_reducible first|exact HB.out|apply below_alloc|apply pw_below_drewN|apply below_drew1|refine below_set ?_ GE117.out|refine below_set ?_ GE120.out)|exact HB.out)))|(with_reducible refine Kd.C_alloc ?_ _)|(with_reducible refine Kd.C_drewN ?_ _)|(with_reducible refine Kd.C_drew ?_)));(case side2=>exact HC119_2.out);rintro e w' ⟨rfl,⟨nd,rfl⟩⟩;(try first|exact ⟨rfl,_,World.drewN_drewN _ _ _⟩|exact ⟨rfl,_,Eq.trans (World.drewN_drewN _ _ _) (congrArg (World.drewN _) (Nat.add_assoc _ _ _))⟩)))
                       repeat (go_quiet (first|(go_at_call 25;(with_reducible refine (cohousingref23_Has.calls k6 _ _ l0_0 (rd ((rd_T41 l0_1 x4_2).f2) x8_6) true _ ?side1 ?side2 A58.out).mono ?_);(case side1=>repeat (first|exact (Kd.C_below HR0_0.out HB.out)|(with_reducible refine Kd.C_alloc ?_ _)|(with_reducible refine Kd.C_drewN ?_ _)|(with_reducible refine Kd.C_drew ?_)));(case side2=>exact HC0_0.out);rintro e w' ⟨rfl,⟨nd,rfl⟩⟩;(try first|exact ⟨rfl,_,World.drewN_drewN _ _ _⟩|exact ⟨rfl,_,Eq.trans (World.drewN_drewN _ _ _) (congrArg (World.drewN _) (Nat.add_assoc _ _ _))⟩);have p126:0≤(x8_6:Int):=zE (by first|(with_reducible assumption)|assumption);have q126:x8_6 < (((rd_T41 l0_1 x4_2).f2).length:Int):=zE (by first|(with_reducible assumption)|assumption);obtain ⟨ad126,e126,hx126_0⟩:=Kd.at_int HR119_2.out x8_6 p126 q126;obtain rfl:ad124=ad126:=(by injection e126);replace hx126_0:=(HB.out.cell (World.block_lt_of_cell? w _ hx126_0)).trans hx126_0;replace p126:=eq_true p126;replace q126:=eq_true q126)|(go_at_call 24;(with_reducible refine (cohousingref23_In.calls k6 _ _ ((rd_T41 l0_1 x4_2).f2) (rd ((rd_T41 l0_1 x4_2).f2) x8_6) t127 _ ?side1 ?side2 A60.out).mono ?_);(case side1=>repeat (first|exact (Kd.C_below HR119_2.out (by repeat (first|(with_reducible first|exact HB.out|apply below_alloc|apply pw_below_drewN|apply below_drew1|refine below_set ?_ GE117.out|refine below_set ?_ GE120.out)|exact HB.out)))|(with_reducible refine Kd.C_alloc ?_ _)|(with_reducible refine Kd.C_drewN ?_ _)|(with_reducible refine Kd.C_drew ?_)));(case side2=>exact HC119_2.out);rintro e w' ⟨rfl,⟨nd,rfl⟩⟩;(try first|exact ⟨rfl,_,World.drewN_drewN _ _ _⟩|exact ⟨rfl,_,Eq.trans (World.drewN_drewN _ _ _) (congrArg (World.drewN _) (Nat.add_assoc _ _ _))⟩)));try go_wp2_with (first|(go_at_call 25;(with_reducible refine (cohousingref23_Has.calls k6 _ _ l0_0 (rd ((rd_T41 l0_1 x4_2).f2) x8_6) true _ ?side1 ?side2 A58.out).mono ?_);(case side1=>repeat (first|exact (Kd.C_below HR0_0.out HB.out)|(with_reducible refine Kd.C_alloc ?_ _)|(with_reducible refine Kd.C_drewN ?_ _)|(with_reducible refine Kd.C_drew ?_)));(case side2=>exact HC0_0.out);rintro e w' ⟨rfl,⟨nd,rfl⟩⟩;(try first|exact ⟨rfl,_,World.drewN_drewN _ _ _⟩|exact ⟨rfl,_,Eq.trans (World.drewN_drewN _ _ _) (congrArg (World.drewN _) (Nat.add_assoc _ _ _))⟩);have p126:0≤(x8_6:Int):=zE (by first|(with_reducible assumption)|assumption);have q126:x8_6 < (((rd_T41 l0_1 x4_2).f2).length:Int):=zE (by first|(with_reducible assumption)|assumption);obtain ⟨ad126,e126,hx126_0⟩:=Kd.at_int HR119_2.out x8_6 p126 q126;obtain rfl:ad124=ad126:=(by injection e126);replace hx126_0:=(HB.out.cell (World.block_lt_of_cell? w _ hx126_0)).trans hx126_0;replace p126:=eq_true p126;replace q126:=eq_true q126)|(go_at_call 24;(with_reducible refine (cohousingref23_In.calls k6 _ _ ((rd_T41 l0_1 x4_2).f2) (rd ((rd_T41 l0_1 x4_2).f2) x8_6) t127 _ ?side1 ?side2 A60.out).mono ?_);(case side1=>repeat (first|exact (Kd.C_below HR119_2.out (by repeat (first|(with_reducible first|exact HB.out|apply below_alloc|apply pw_below_drewN|apply below_drew1|refine below_set ?_ GE117.out|refine below_set ?_ GE120.out)|exact HB.out)))|(with_reducible refine Kd.C_alloc ?_ _)|(with_reducible refine Kd.C_drewN ?_ _)|(with_reducible refine Kd.C_drew ?_)));(case side2=>exact HC119_2.out);rintro e w' ⟨rfl,⟨nd,rfl⟩⟩;(try first|exact ⟨rfl,_,World.drewN_drewN _ _ _⟩|exact ⟨rfl,_,Eq.trans (World.drewN_drewN _ _ _) (congrArg (World.drewN _) (Nat.add_assoc _ _ _))⟩))))
                       go_ret
                       exact ⟨by first|rfl|(simp [errW_none,errW_some] <;> rfl)|(simp [*,errW_none,errW_some] <;> rfl),by repeat (first|(with_reducible first|exact HB.out|apply below_alloc|apply pw_below_drewN|apply below_drew1|refine below_set ?_ GE117.out|refine below_set ?_ GE120.out)|exact HB.out)⟩
                     ·
                      replace c59:=Bool.eq_false_iff.mpr c59
                      subst c59
                      have H1:(some false)=some r:=by rw [if_neg (show ¬ (false=true) by decide)] at H;exact H
                      clear H
                      have H:=H1
                      clear H1
                      obtain rfl:=Option.some.inj H
                      have hnb68:=NB120_117.out
                      have hnc68:=NB117_120.out
                      have hcz69_0:wr.cell? ⟨gb120,0,none⟩=some (.int .i64 ((rd_T41 l0_1 x4_2).f0)):=(blk_cell BK120.out 0).trans rfl
                      have hcz69_1:wr.cell? ⟨gb120,1,none⟩=some (.int .i64 ((rd_T41 l0_1 x4_2).f1)):=(blk_cell BK120.out 1).trans rfl
                      have hcz69_2:wr.cell? ⟨gb120,2,none⟩=some (.slice A119_2 ((rd_T41 l0_1 x4_2).f2).length c119_2):=(blk_cell BK120.out 2).trans rfl
                      have hfz69_0:=blk_frozen BK120.out 0
                      have hfz69_1:=blk_frozen BK120.out 1
                      have hfz69_2:=blk_frozen BK120.out 2
                      have hcz70_0:wr.cell? ⟨gb117,0,none⟩=some (.slice A0_0 l0_0.length c0_0):=(blk_cell BK117.out 0).trans rfl
                      have hcz70_1:wr.cell? ⟨gb117,1,none⟩=some (.slice (some ad119) l0_1.length c0_1):=(blk_cell BK117.out 1).trans rfl
                      have hfz70_0:=blk_frozen BK117.out 0
                      have hfz70_1:=blk_frozen BK117.out 1
                      have p124:0≤(x8_6:Int):=zE (by first|(with_reducible assumption)|assumption)
                      have q124:x8_6 < (((rd_T41 l0_1 x4_2).f2).length:Int):=zE (by first|(with_reducible assumption)|assumption)
                      obtain ⟨ad124,e124,hx124_0⟩:=Kd.at_int HR119_2.out x8_6 p124 q124
                      cases e124
                      replace hx124_0:=(HB.out.cell (World.block_lt_of_cell? w _ hx124_0)).trans hx124_0
                      replace p124:=eq_true p124
                      replace q124:=eq_true q124
                      go_wp2_with (first|(go_at_call 25;(with_reducible refine (cohousingref23_Has.calls k6 _ _ l0_0 (rd ((rd_T41 l0_1 x4_2).f2) x8_6) false _ ?side1 ?side2 A58.out).mono ?_);(case side1=>repeat (first|exact (Kd.C_below HR0_0.out HB.out)|(with_reducible refine Kd.C_alloc ?_ _)|(with_reducible refine Kd.C_drewN ?_ _)|(with_reducible refine Kd.C_drew ?_)));(case side2=>exact HC0_0.out);rintro e w' ⟨rfl,⟨nd,rfl⟩⟩;(try first|exact ⟨rfl,_,World.drewN_drewN _ _ _⟩|exact ⟨rfl,_,Eq.trans (World.drewN_drewN _ _ _) (congrArg (World.drewN _) (Nat.add_assoc _ _ _))⟩)))
                      repeat (go_quiet (first|(go_at_call 25;(with_reducible refine (cohousingref23_Has.calls k6 _ _ l0_0 (rd ((rd_T41 l0_1 x4_2).f2) x8_6) false _ ?side1 ?side2 A58.out).mono ?_);(case side1=>repeat (first|exact (Kd.C_below HR0_0.out HB.out)|(with_reducible refine Kd.C_alloc ?_ _)|(with_reducible refine Kd.C_drewN ?_ _)|(with_reducible refine Kd.C_drew ?_)));(case side2=>exact HC0_0.out);rintro e w' ⟨rfl,⟨nd,rfl⟩⟩;(try first|exact ⟨rfl,_,World.drewN_drewN _ _ _⟩|exact ⟨rfl,_,Eq.trans (World.drewN_drewN _ _ _) (congrArg (World.drewN _) (Nat.add_assoc _ _ _))⟩)));try go_wp2_with (first|(go_at_call 25;(with_reducible refine (cohousingref23_Has.calls k6 _ _ l0_0 (rd ((rd_T41 l0_1 x4_2).f2) x8_6) false _ ?side1 ?side2 A58.out).mono ?_);(case side1=>repeat (first|exact (Kd.C_below HR0_0.out HB.out)|(with_reducible refine Kd.C_alloc ?_ _)|(with_reducible refine Kd.C_drewN ?_ _)|(with_reducible refine Kd.C_drew ?_)));(case side2=>exact HC0_0.out);rintro e w' ⟨rfl,⟨nd,rfl⟩⟩;(try first|exact ⟨rfl,_,World.drewN_drewN _ _ _⟩|exact ⟨rfl,_,Eq.trans (World.drewN_drewN _ _ _) (congrArg (World.drewN _) (Nat.add_assoc _ _ _))⟩))))
                      go_ret
                      exact ⟨by first|rfl|(simp [errW_none,errW_some] <;> rfl)|(simp [*,errW_none,errW_some] <;> rfl),by repeat (first|(with_reducible first|exact HB.out|apply below_alloc|apply pw_below_drewN|apply below_drew1|refine below_set ?_ GE117.out|refine below_set ?_ GE120.out)|exact HB.out)⟩
                    ·
                     rw [if_neg c57] at H
                     exact absurd H (by simp)
                   ·
                    rw [if_neg c56] at H
                    have c56b0:decide (x8_6 < (((rd_T41 l0_1 x4_2).f2).length:Int))=false:=decide_eq_false c56
                    clear c56
                    have H':=zF H
                    clear H
                    have hnb71:=NB120_117.out
                    have hnc71:=NB117_120.out
                    have hcz72_0:wr.cell? ⟨gb120,0,none⟩=some (.int .i64 ((rd_T41 l0_1 x4_2).f0)):=(blk_cell BK120.out 0).trans rfl
                    have hcz72_1:wr.cell? ⟨gb120,1,none⟩=some (.int .i64 ((rd_T41 l0_1 x4_2).f1)):=(blk_cell BK120.out 1).trans rfl
                    have hcz72_2:wr.cell? ⟨gb120,2,none⟩=some (.slice A119_2 ((rd_T41 l0_1 x4_2).f2).length c119_2):=(blk_cell BK120.out 2).trans rfl
                    have hfz72_0:=blk_frozen BK120.out 0
                    have hfz72_1:=blk_frozen BK120.out 1
                    have hfz72_2:=blk_frozen BK120.out 2
                    go_wp2
                    repeat (go_quiet (fail);try go_wp2)
                    go_roundg k6
                    case measure=>have:=HJ2.out;have:=HK2.out;have:=HJ10.out;have:=HJ32.out;have:=HK5.out;have:=HK6.out;omega
                    case rel=>exact ⟨(wrap64 (x4_2 + 1)),(by first|rfl|(simp;done)|(simp [*];done)),H',⟨by have:=HJ2.out;have:=HK2.out;have:=HJ10.out;have:=HJ32.out;have:=HK5.out;have:=HK6.out;omega⟩,⟨by (with_reducible repeat (first|refine blk_drewN ?_ _|refine blk_drew ?_|refine blk_alloc ?_ _));exact BK117.out⟩,⟨by repeat (first|(with_reducible first|exact HB.out|apply below_alloc|apply pw_below_drewN|apply below_drew1|refine below_set ?_ GE117.out|refine below_set ?_ GE120.out)|exact HB.out)⟩⟩
       ·
        rw [if_neg c10] at H
        exact absurd H (by simp)
      ·
       rw [if_neg c9] at H
       have c9b0:decide (x4_2 < (l0_1.length:Int))=false:=decide_eq_false c9
       clear c9
       obtain rfl:=Option.some.inj H
       have hcz73_0:wr.cell? ⟨gb117,0,none⟩=some (.slice A0_0 l0_0.length c0_0):=(blk_cell BK117.out 0).trans rfl
       have hcz73_1:wr.cell? ⟨gb117,1,none⟩=some (.slice A0_1 l0_1.length c0_1):=(blk_cell BK117.out 1).trans rfl
       have hfz73_0:=blk_frozen BK117.out 0
       have hfz73_1:=blk_frozen BK117.out 1
       go_wp2
       repeat (go_quiet (fail);try go_wp2)
       go_ret
       exact ⟨by first|rfl|(simp [errW_none,errW_some] <;> rfl)|(simp [*,errW_none,errW_some] <;> rfl),by repeat (first|(with_reducible first|exact HB.out|apply below_alloc|apply pw_below_drewN|apply below_drew1|refine below_set ?_ GE117.out)|exact HB.out)⟩

end Go.Proofs.Ytjgnkhfgmpaljaa.P
