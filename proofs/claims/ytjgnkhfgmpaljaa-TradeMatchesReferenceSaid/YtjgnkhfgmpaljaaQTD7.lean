/- Lemmas, readings of functions as plain Lean functions and contracts of functions of the program, for the claimed theorem; each one's conditions stand in its statement. -/
import Derived.Test.YtjgnkhfgmpaljaaProg
import Derived.Below
import Derived.Deep.Draws
import Derived.Deep.AppendLies
import Derived.Maps.AppendAt
import Derived.OwnWalk
import Derived.Laws.BytesArg
import Derived.Laws.MakeOwn
import Derived.Laws.OwnMore
import Derived.Deep.OwnRows
import Derived.Tactics
import Derived.Lib.ConvBytes
import Derived.Laws.Slices
import Derived.WalkKit
import Derived.KernelRfl
import Derived.RowKit3
import Derived.Deep.LoopGhost
import Derived.Deep.QuietTactic
import Derived.BigQuiet
import Derived.WideLaws
import Derived.Deep.DeepCutAuto
import Derived.Deep.CutBlock
import Derived.Deep.RegionHeld3
import Derived.Laws.Rows
import Derived.Lib.AppendStr
import Derived.ArgAppend
import Derived.Laws.IdiomCopy
import Derived.OrdersHeld
import Derived.Laws.BitsLemmas
import Derived.RowKit
import Derived.Laws.Cover1
import Derived.Test.YtjgnkhfgmpaljaaQTD0
import Derived.Test.YtjgnkhfgmpaljaaQTD2
import Derived.Test.YtjgnkhfgmpaljaaQTD3
import Derived.Test.YtjgnkhfgmpaljaaQTD4
import Derived.Test.YtjgnkhfgmpaljaaQTD5
import Derived.Test.YtjgnkhfgmpaljaaQTD6
namespace Go.Proofs.Ytjgnkhfgmpaljaa.P
open Go.RowKit Go.Proofs.YtjgnkhfgmpaljaaW.PrintWords Go.Proofs.YtjgnkhfgmpaljaaW.PrintLast Go.Proofs.YtjgnkhfgmpaljaaW.PrintMore
attribute [local go_sem] max2_int min2_int max_two min_two max_three min_three max_four min_four   -- for this text's walks alone
set_option linter.unusedVariables false
set_option linter.unusedSimpArgs false



def errW:Option Int→Value
 | none=>.nilIface
 | some c=>.iface 0 (.int .i64 c)
theorem errW_none:errW none = .nilIface:=rfl
theorem errW_some (c:Int):errW (some c) = .iface 0 (.int .i64 c):=rfl

theorem info3:(Try.prog.info? 3).map (fun i=>(i.zero,i.size,i.bytes))=some (some (.int .i64 0),1,8):=by kernel_rfl
theorem info39:(Try.prog.info? 39).map (fun i=>(i.zero,i.size,i.bytes))=some (some (.agg #[(.int .i64 0),(.int .i64 0),(.int .i64 0)]),3,24):=by kernel_rfl
theorem info47:(Try.prog.info? 47).map (fun i=>(i.zero,i.size,i.bytes))=some (some (.agg #[(.bool false),(.slice none 0 0)]),2,32):=by kernel_rfl
-- the values' own types
structure S39 where
 f0:Int
 f1:Int
 f2:Int
def z39:S39:=⟨(0:Int),(0:Int),(0:Int)⟩
def k39:Kd S39:=Kd.iso (Kd.pair (Kd.int .i64) (Kd.pair (Kd.int .i64) (Kd.int .i64))) (fun x:S39=>(x.f0,x.f1,x.f2))
theorem k39_open {w:World} {x:S39} {cs:List Value} (h:k39.K w x cs):cs=[.int .i64 x.f0,.int .i64 x.f1,.int .i64 x.f2]:=by
 obtain ⟨_,_,rfl,rfl,⟨_,_,rfl,rfl,rfl⟩⟩:=h
 exact rfl
theorem k39_openM {w:World} {base:Nat} {ok:Nat→Prop} {x:S39} {cs:List Value} (h:k39.M w base ok x cs):cs=[.int .i64 x.f0,.int .i64 x.f1,.int .i64 x.f2]:=by
 obtain ⟨_,_,rfl,rfl,⟨_,_,rfl,rfl,rfl⟩⟩:=h
 exact rfl
theorem k39_mk (w:World) (x:S39)  : k39.K w x [.int .i64 x.f0,.int .i64 x.f1,.int .i64 x.f2]:=⟨[.int .i64 x.f0],[.int .i64 x.f1,.int .i64 x.f2],rfl,rfl,⟨[.int .i64 x.f1],[.int .i64 x.f2],rfl,rfl,rfl⟩⟩
theorem k39_mkM (w:World) (base:Nat) (ok:Nat→Prop) (x:S39)  : k39.M w base ok x [.int .i64 x.f0,.int .i64 x.f1,.int .i64 x.f2]:=⟨[.int .i64 x.f0],[.int .i64 x.f1,.int .i64 x.f2],rfl,rfl,⟨[.int .i64 x.f1],[.int .i64 x.f2],rfl,rfl,rfl⟩⟩
def rd_T39 (xs:List S39) (i:Int):S39:=xs.getD i.toNat z39
theorem at_T39 {w:World} {A:Option Addr} {n:Nat} {xs:List S39} (h:Kd.C k39 w A n xs) (i:Int) (h0:0≤i) (h1:i < n):∃ ad ,A=some ad∧w.cell? (ad.add (i.toNat * 3))=some (.int .i64 (rd_T39 xs i).f0)∧w.cell? ⟨(ad.add (i.toNat * 3)).block,(ad.add (i.toNat * 3)).off + 1,none⟩=some (.int .i64 (rd_T39 xs i).f1)∧w.cell? ⟨(ad.add (i.toNat * 3)).block,(ad.add (i.toNat * 3)).off + 2,none⟩=some (.int .i64 (rd_T39 xs i).f2):=by
 obtain ⟨ad,c,e,_,hK,hc0⟩:=Kd.C_get h z39 i h0 h1
 have hc:∀ j u,c[j]? = some u→w.cell? (ad.add (i.toNat * 3 + j))=some u:=hc0
 obtain rfl:=k39_open hK
 exact ⟨ad,e,hc 0 _ rfl,by rw [← add_field _ _ 1 (by omega)];exact hc 1 _ rfl,by rw [← add_field _ _ 2 (by omega)];exact hc 2 _ rfl⟩

def rd_L2 (xs:List (List Int)) (i:Int):(List Int):=xs.getD i.toNat ([]:List Int)
structure S41 where
 f0:Int
 f1:Int
 f2:(List Int)
def z41:S41:=⟨(0:Int),(0:Int),([]:List Int)⟩
def k41:Kd S41:=Kd.iso (Kd.pair (Kd.int .i64) (Kd.pair (Kd.int .i64) (Kd.slice 3 (Kd.int .i64)))) (fun x:S41=>(x.f0,x.f1,x.f2))
theorem k41_open {w:World} {x:S41} {cs:List Value} (h:k41.K w x cs):∃ A2 c2,cs=[.int .i64 x.f0,.int .i64 x.f1,.slice A2 x.f2.length c2]∧x.f2.length≤c2∧(Kd.int .i64).C w A2 x.f2.length x.f2:=by
 obtain ⟨_,_,rfl,rfl,⟨_,_,rfl,rfl,⟨A2,c2,rfl,l2,g2⟩⟩⟩:=h
 exact ⟨A2,c2,rfl,l2,g2⟩
theorem k41_mk (w:World) (x:S41) {A2:Option Addr} {c2:Nat} (l2:x.f2.length≤c2) (g2:(Kd.int .i64).C w A2 x.f2.length x.f2):k41.K w x [.int .i64 x.f0,.int .i64 x.f1,.slice A2 x.f2.length c2]:=⟨[.int .i64 x.f0],[.int .i64 x.f1,.slice A2 x.f2.length c2],rfl,rfl,⟨[.int .i64 x.f1],[.slice A2 x.f2.length c2],rfl,rfl,⟨A2,c2,rfl,l2,g2⟩⟩⟩
def rd_T41 (xs:List S41) (i:Int):S41:=xs.getD i.toNat z41
theorem at_T41 {w:World} {A:Option Addr} {n:Nat} {xs:List S41} (h:Kd.C k41 w A n xs) (i:Int) (h0:0≤i) (h1:i < n):∃ ad A2 c2,A=some ad∧w.cell? (ad.add (i.toNat * 3))=some (.int .i64 (rd_T41 xs i).f0)∧w.cell? ⟨(ad.add (i.toNat * 3)).block,(ad.add (i.toNat * 3)).off + 1,none⟩=some (.int .i64 (rd_T41 xs i).f1)∧w.cell? ⟨(ad.add (i.toNat * 3)).block,(ad.add (i.toNat * 3)).off + 2,none⟩=some (.slice A2 (rd_T41 xs i).f2.length c2)∧(rd_T41 xs i).f2.length≤c2∧(Kd.int .i64).C w A2 (rd_T41 xs i).f2.length (rd_T41 xs i).f2:=by
 obtain ⟨ad,c,e,_,hK,hc0⟩:=Kd.C_get h z41 i h0 h1
 have hc:∀ j u,c[j]? = some u→w.cell? (ad.add (i.toNat * 3 + j))=some u:=hc0
 obtain ⟨A2,c2,rfl,l2,g2⟩:=k41_open hK
 exact ⟨ad,A2,c2,e,hc 0 _ rfl,by rw [← add_field _ _ 1 (by omega)];exact hc 1 _ rfl,by rw [← add_field _ _ 2 (by omega)];exact hc 2 _ rfl,l2,g2⟩

structure S53 where
 f0:Int
 f1:Int
def z53:S53:=⟨(0:Int),(0:Int)⟩
def k53:Kd S53:=Kd.iso (Kd.pair (Kd.int .i64) (Kd.int .i64)) (fun x:S53=>(x.f0,x.f1))
theorem k53_open {w:World} {x:S53} {cs:List Value} (h:k53.K w x cs):cs=[.int .i64 x.f0,.int .i64 x.f1]:=by
 obtain ⟨_,_,rfl,rfl,rfl⟩:=h
 exact rfl
theorem k53_mk (w:World) (x:S53)  : k53.K w x [.int .i64 x.f0,.int .i64 x.f1]:=⟨[.int .i64 x.f0],[.int .i64 x.f1],rfl,rfl,rfl⟩
def rd_T53 (xs:List S53) (i:Int):S53:=xs.getD i.toNat z53
theorem at_T53 {w:World} {A:Option Addr} {n:Nat} {xs:List S53} (h:Kd.C k53 w A n xs) (i:Int) (h0:0≤i) (h1:i < n):∃ ad ,A=some ad∧w.cell? (ad.add (i.toNat * 2))=some (.int .i64 (rd_T53 xs i).f0)∧w.cell? ⟨(ad.add (i.toNat * 2)).block,(ad.add (i.toNat * 2)).off + 1,none⟩=some (.int .i64 (rd_T53 xs i).f1):=by
 obtain ⟨ad,c,e,_,hK,hc0⟩:=Kd.C_get h z53 i h0 h1
 have hc:∀ j u,c[j]? = some u→w.cell? (ad.add (i.toNat * 2 + j))=some u:=hc0
 obtain rfl:=k53_open hK
 exact ⟨ad,e,hc 0 _ rfl,by rw [← add_field _ _ 1 (by omega)];exact hc 1 _ rfl⟩

def rd_L6 (xs:List (List S39)) (i:Int):(List S39):=xs.getD i.toNat ([]:List S39)
structure S47 where
 f0:Bool
 f1:(List S39)
def z47:S47:=⟨false,([]:List S39)⟩
def k47:Kd S47:=Kd.iso (Kd.pair Kd.bool (Kd.slice 39 k39)) (fun x:S47=>(x.f0,x.f1))
theorem k47_open {w:World} {x:S47} {cs:List Value} (h:k47.K w x cs):∃ A1 c1,cs=[.bool x.f0,.slice A1 x.f1.length c1]∧x.f1.length≤c1∧k39.C w A1 x.f1.length x.f1:=by
 obtain ⟨_,_,rfl,rfl,⟨A1,c1,rfl,l1,g1⟩⟩:=h
 exact ⟨A1,c1,rfl,l1,g1⟩
theorem k47_openM {w:World} {base:Nat} {ok:Nat→Prop} {x:S47} {cs:List Value} (h:k47.M w base ok x cs):∃ v1,cs=[.bool x.f0,v1]∧k39.R 39 w base ok v1 x.f1:=by
 obtain ⟨_,_,rfl,rfl,⟨v1,rfl,g1⟩⟩:=h
 exact ⟨v1,rfl,g1⟩
theorem k47_mk (w:World) (x:S47) {A1:Option Addr} {c1:Nat} (l1:x.f1.length≤c1) (g1:k39.C w A1 x.f1.length x.f1):k47.K w x [.bool x.f0,.slice A1 x.f1.length c1]:=⟨[.bool x.f0],[.slice A1 x.f1.length c1],rfl,rfl,⟨A1,c1,rfl,l1,g1⟩⟩
theorem k47_mkM (w:World) (base:Nat) (ok:Nat→Prop) (x:S47) {v1:Value} (g1:k39.R 39 w base ok v1 x.f1):k47.M w base ok x [.bool x.f0,v1]:=⟨[.bool x.f0],[v1],rfl,rfl,⟨v1,rfl,g1⟩⟩
def rd_T47 (xs:List S47) (i:Int):S47:=xs.getD i.toNat z47
theorem at_T47 {w:World} {A:Option Addr} {n:Nat} {xs:List S47} (h:Kd.C k47 w A n xs) (i:Int) (h0:0≤i) (h1:i < n):∃ ad A1 c1,A=some ad∧w.cell? (ad.add (i.toNat * 2))=some (.bool (rd_T47 xs i).f0)∧w.cell? ⟨(ad.add (i.toNat * 2)).block,(ad.add (i.toNat * 2)).off + 1,none⟩=some (.slice A1 (rd_T47 xs i).f1.length c1)∧(rd_T47 xs i).f1.length≤c1∧k39.C w A1 (rd_T47 xs i).f1.length (rd_T47 xs i).f1:=by
 obtain ⟨ad,c,e,_,hK,hc0⟩:=Kd.C_get h z47 i h0 h1
 have hc:∀ j u,c[j]? = some u→w.cell? (ad.add (i.toNat * 2 + j))=some u:=hc0
 obtain ⟨A1,c1,rfl,l1,g1⟩:=k47_open hK
 exact ⟨ad,A1,c1,e,hc 0 _ rfl,by rw [← add_field _ _ 1 (by omega)];exact hc 1 _ rfl,l1,g1⟩

def rd_L8 (xs:List (List S53)) (i:Int):(List S53):=xs.getD i.toNat ([]:List S53)
def rd_L9 (xs:List (List S41)) (i:Int):(List S41):=xs.getD i.toNat ([]:List S41)
structure S25 where
 f0:(List S53)
 f1:(List S41)
def z25:S25:=⟨([]:List S53),([]:List S41)⟩
def k25:Kd S25:=Kd.iso (Kd.pair (Kd.slice 53 k53) (Kd.slice 41 k41)) (fun x:S25=>(x.f0,x.f1))
theorem k25_open {w:World} {x:S25} {cs:List Value} (h:k25.K w x cs):∃ A0 c0 A1 c1,cs=[.slice A0 x.f0.length c0,.slice A1 x.f1.length c1]∧x.f0.length≤c0∧k53.C w A0 x.f0.length x.f0∧x.f1.length≤c1∧k41.C w A1 x.f1.length x.f1:=by
 obtain ⟨_,_,rfl,⟨A0,c0,rfl,l0,g0⟩,⟨A1,c1,rfl,l1,g1⟩⟩:=h
 exact ⟨A0,c0,A1,c1,rfl,l0,g0,l1,g1⟩
def rd_T25 (xs:List S25) (i:Int):S25:=xs.getD i.toNat z25
def rd_L11 (xs:List (List S47)) (i:Int):(List S47):=xs.getD i.toNat ([]:List S47)
end Go.Proofs.Ytjgnkhfgmpaljaa.P
namespace Go.Proofs.Ytjgnkhfgmpaljaa.P
open Go.RowKit Go.Proofs.YtjgnkhfgmpaljaaW.PrintWords Go.Proofs.YtjgnkhfgmpaljaaW.PrintLast Go.Proofs.YtjgnkhfgmpaljaaW.PrintMore
attribute [local go_sem] max2_int min2_int max_two min_two max_three min_three max_four min_four   -- for this text's walks alone
set_option linter.unusedVariables false
set_option linter.unusedSimpArgs false

mutual
def cohousingref23_Few.j0:Nat→Bool→List (S53)→List (S41)→Option (Bool)
 | 0,_,_,_=>none
 | k + 1,x13,x106000,x106001=>if x13=true then (some false) else (cohousingref23_Few.l0 k 0 x106000 x106001)
def cohousingref23_Few.l0:Nat→Int→List (S53)→List (S41)→Option (Bool)
 | 0,_,_,_=>none
 | k + 1,x3,x106000,x106001=>if x3 < (x106001.length:Int) then (if 0≤x3 then (if (((rd_T41 x106001 x3).f2).length:Int) > 30 then (some false) else (cohousingref23_Few.l0 k (wrap64 (x3 + 1)) x106000 x106001)) else (none)) else (some true)
end
def cohousingref23_Few.f (k:Nat) (l0_0:List (S53)) (l0_1:List (S41)):Option (Bool):=if (l0_0.length:Int) > 20 then (cohousingref23_Few.j0 k true l0_0 l0_1) else (cohousingref23_Few.j0 k (decide ((l0_1.length:Int) > 20)) l0_0 l0_1)
theorem cohousingref23_Few.mono_l:∀ k,(∀ y0 y1 y2,LeO (cohousingref23_Few.j0 k y0 y1 y2) (cohousingref23_Few.j0 (k + 1) y0 y1 y2))∧(∀ y0 y1 y2,LeO (cohousingref23_Few.l0 k y0 y1 y2) (cohousingref23_Few.l0 (k + 1) y0 y1 y2))
 | 0=>⟨fun _ _ _ r h=>by simp [cohousingref23_Few.j0] at h,fun _ _ _ r h=>by simp [cohousingref23_Few.l0] at h⟩
 | k + 1=>by
  obtain ⟨ih0,ih1⟩:=cohousingref23_Few.mono_l k
  refine ⟨?_,?_⟩
  ·
   intro y0 y1 y2
   unfold cohousingref23_Few.j0
   repeat' first
   | (with_reducible exact ih0 _ _ _)
   | (with_reducible exact ih1 _ _ _)
   | (with_reducible exact LeO.refl _)
   | (with_reducible exact LeO.none _)
   | (with_reducible refine LeO.ite ?_ ?_)
   | (with_reducible refine LeO.bind ?_ (fun _=>?_))
   | exact ih0 _ _ _
   | exact ih1 _ _ _
   | exact LeO.none _
   | refine LeO.ite ?_ ?_
   | refine LeO.bind ?_ (fun _=>?_)
  ·
   intro y0 y1 y2
   unfold cohousingref23_Few.l0
   repeat' first
   | (with_reducible exact ih0 _ _ _)
   | (with_reducible exact ih1 _ _ _)
   | (with_reducible exact LeO.refl _)
   | (with_reducible exact LeO.none _)
   | (with_reducible refine LeO.ite ?_ ?_)
   | (with_reducible refine LeO.bind ?_ (fun _=>?_))
   | exact ih0 _ _ _
   | exact ih1 _ _ _
   | exact LeO.none _
   | refine LeO.ite ?_ ?_
   | refine LeO.bind ?_ (fun _=>?_)
theorem cohousingref23_Few.mono:∀ a0 a1 k,LeO (cohousingref23_Few.f k a0 a1) (cohousingref23_Few.f (k + 1) a0 a1):=by
 intro a0 a1 k
 obtain ⟨ih0,ih1⟩:=cohousingref23_Few.mono_l k
 unfold cohousingref23_Few.f
 repeat' first
   | (with_reducible exact ih0 _ _ _)
   | (with_reducible exact ih1 _ _ _)
   | (with_reducible exact LeO.refl _)
   | (with_reducible exact LeO.none _)
   | (with_reducible refine LeO.ite ?_ ?_)
   | (with_reducible refine LeO.bind ?_ (fun _=>?_))
   | exact ih0 _ _ _
   | exact ih1 _ _ _
   | exact LeO.none _
   | refine LeO.ite ?_ ?_
   | refine LeO.bind ?_ (fun _=>?_)
set_option maxHeartbeats 8000000 in
set_option maxRecDepth 100000 in
theorem cohousingref23_Few.calls (k:Nat) (A0_0:Option Addr) (c0_0:Nat) (l0_0:List (S53)) (A0_1:Option Addr) (c0_1:Nat) (l0_1:List (S41)) (r:Bool) (w:World) (hr0_0:Kd.C k53 w A0_0 l0_0.length l0_0) (hc0_0:l0_0.length≤c0_0) (hr0_1:Kd.C k41 w A0_1 l0_1.length l0_1) (hc0_1:l0_1.length≤c0_1) (h:cohousingref23_Few.f k l0_0 l0_1=some r) :
  Calls Try.prog 17 #[.agg #[.slice A0_0 l0_0.length c0_0,.slice A0_1 l0_1.length c0_1]] w fun e w'=>e = .returned (.bool r)∧Below w.heap.size w w':=by
 have hu25:=Try.underlying25
 have HR0_0:=zF hr0_0
 have HC0_0:=zF hc0_0
 clear hr0_0 hc0_0
 have HR0_1:=zF hr0_1
 have HC0_1:=zF hc0_1
 clear hr0_1 hc0_1
 have HB:=zF (Below.refl w.heap.size w)
 have H:(if (l0_0.length:Int) > 20 then (cohousingref23_Few.j0 k true l0_0 l0_1) else (cohousingref23_Few.j0 k (decide ((l0_1.length:Int) > 20)) l0_0 l0_1))=some r:=h
 clear h
 have HC2:=zF H
 clear H
 go_enter Try.func17,Try.ntmps17
 go_upto_region 1 with (first|((with_reducible refine gate_dst (N:=1) rfl ?_);(try (refine gate_guard (by rfl) ?_;dsimp only));refine box_event ?hg (N:=1) ?hd (cs:=#[.slice A0_0 l0_0.length c0_0,.slice A0_1 l0_1.length c0_1]) (t:=25) ?hr ?_;(case hd=>rfl);(case hg=>rfl);(case hr=>first|(go_simp;done)|(go_simp;rfl));intro gb105 hg w3 hbox hb;have n0_:=zF (below_step (by repeat (first|(with_reducible first|exact HB.out|apply below_alloc|apply pw_below_drewN|apply below_drew1)|exact HB.out)) hb);have n1_:=zF (hbox);have n2_:=zF ((by rw [hg];exact (below_size (by repeat (first|(with_reducible first|exact HB.out|apply below_alloc|apply pw_below_drewN|apply below_drew1)|exact HB.out))):w.heap.size≤gb105));have n3_:=zF ((by rw [hg];exact (below_size (by repeat (first|(with_reducible first|exact HB.out|apply below_alloc|apply pw_below_drewN|apply below_drew1)|exact HB.out))):w.heap.size≤gb105));clear HB;have HB:=n0_;have BK105:=n1_;have GW105:=n2_;have GE105:=n3_;clear n0_ n1_ n2_ n3_;clear hb hbox hg))
 (try simp only [Act.put,zA,zB,zC])
 go_cut [13] (fun v13 wc=>∃ (kq:Nat) (x13_1:Bool),v13 = .bool x13_1∧Aside0 (cohousingref23_Few.j0 kq x13_1 l0_0 l0_1=some r)∧Aside0 (kq≤k)∧Aside0 (wc.heap[gb105]? = some (.cells #[(.slice A0_0 l0_0.length c0_0),(.slice A0_1 l0_1.length c0_1)] 25 (0,0)))∧Aside0 (Below w.heap.size w wc))
 case first =>
  have H:=HC2.out
  clear HC2
  by_cases c4:(l0_0.length:Int) > 20
  ·
   rw [if_pos c4] at H
   have c4b0:decide (20 < (l0_0.length:Int))=true:=decide_eq_true c4
   have c4b1:decide (20 < l0_0.length)=true:=decide_eq_true (by omega)
   clear c4
   (first|rw [c4b0]|(simp only [i64_w,i32_w];rw [c4b0])|skip)
   have H':=zF H
   clear H
   have hcz5_0:w3.cell? ⟨gb105,0,none⟩=some (.slice A0_0 l0_0.length c0_0):=(blk_cell BK105.out 0).trans rfl
   have hcz5_1:w3.cell? ⟨gb105,1,none⟩=some (.slice A0_1 l0_1.length c0_1):=(blk_cell BK105.out 1).trans rfl
   have hfz5_0:=blk_frozen BK105.out 0
   have hfz5_1:=blk_frozen BK105.out 1
   go_wp2
   go_meet
   case rel=>exact ⟨_,(true),(by first|rfl|(simp;done)|(simp [*];done)),H',⟨by first|omega|exact Nat.le_refl _⟩,⟨by (with_reducible repeat (first|refine blk_drewN ?_ _|refine blk_drew ?_|refine blk_alloc ?_ _));exact BK105.out⟩,⟨by repeat (first|(with_reducible first|exact HB.out|apply below_alloc|apply pw_below_drewN|apply below_drew1|refine below_set ?_ GE105.out)|exact HB.out)⟩⟩
  ·
   rw [if_neg c4] at H
   have c4b0:decide (20 < (l0_0.length:Int))=false:=decide_eq_false c4
   have c4b1:decide (20 < l0_0.length)=false:=decide_eq_false (by omega)
   clear c4
   (first|rw [c4b0]|(simp only [i64_w,i32_w];rw [c4b0])|skip)
   have H':=zF H
   clear H
   have hcz6_0:w3.cell? ⟨gb105,0,none⟩=some (.slice A0_0 l0_0.length c0_0):=(blk_cell BK105.out 0).trans rfl
   have hcz6_1:w3.cell? ⟨gb105,1,none⟩=some (.slice A0_1 l0_1.length c0_1):=(blk_cell BK105.out 1).trans rfl
   have hfz6_0:=blk_frozen BK105.out 0
   have hfz6_1:=blk_frozen BK105.out 1
   go_wp2
   go_meet
   case rel=>exact ⟨_,(decide ((l0_1.length:Int) > 20)),(by first|rfl|(simp;done)|(simp [*];done)),H',⟨by first|omega|exact Nat.le_refl _⟩,⟨by (with_reducible repeat (first|refine blk_drewN ?_ _|refine blk_drew ?_|refine blk_alloc ?_ _));exact BK105.out⟩,⟨by repeat (first|(with_reducible first|exact HB.out|apply below_alloc|apply pw_below_drewN|apply below_drew1|refine below_set ?_ GE105.out)|exact HB.out)⟩⟩
 case rest =>
  clear HC2
  try clear c1
  try clear p2
  try clear c4
  try clear c4b0
  try clear c4b1
  try clear hcz5_0
  try clear hcz5_1
  try clear hcz6_0
  try clear hcz6_1
  try clear hfz5_0
  try clear hfz5_1
  try clear hfz6_0
  try clear hfz6_1
  obtain ⟨kq,x13_1,rfl,HA,HJ1,BK105,HB⟩:=hcut
  cases kq with
  | zero=>exact absurd HA.out (by simp [cohousingref23_Few.j0])
  | succ kj1 =>
   have H:=HA.out
   clear HA
   simp only [cohousingref23_Few.j0] at H
   by_cases c7:x13_1=true
   ·
    subst c7
    have H1:(some false)=some r:=by rw [if_pos rfl] at H;exact H
    clear H
    have H:=H1
    clear H1
    obtain rfl:=Option.some.inj H
    go_wp2
    go_ret
    exact ⟨by first|rfl|(simp [errW_none,errW_some] <;> rfl)|(simp [*,errW_none,errW_some] <;> rfl),by repeat (first|(with_reducible first|exact HB.out|apply below_alloc|apply pw_below_drewN|apply below_drew1|refine below_set ?_ GE105.out)|exact HB.out)⟩
   ·
    replace c7:=Bool.eq_false_iff.mpr c7
    subst c7
    have H1:(cohousingref23_Few.l0 kj1 0 l0_0 l0_1)=some r:=by rw [if_neg (show ¬ (false=true) by decide)] at H;exact H
    clear H
    have H:=H1
    clear H1
    have H':=zF H
    clear H
    go_wp2
    go_loopg [3] kj1 (fun kq v3 w'=>∃ (x3_2:Int),v3 = .int .i64 x3_2∧Aside0 (cohousingref23_Few.l0 kq x3_2 l0_0 l0_1=some r)∧Aside0 (kq≤kj1)∧Aside0 (w'.heap[gb105]? = some (.cells #[(.slice A0_0 l0_0.length c0_0),(.slice A0_1 l0_1.length c0_1)] 25 (0,0)))∧Aside0 (Below w.heap.size w w'))
    case atStart=>exact ⟨(0),(by first|rfl|(simp;done)|(simp [*];done)),H',⟨Nat.le_refl _⟩,⟨by (with_reducible repeat (first|refine blk_drewN ?_ _|refine blk_drew ?_|refine blk_alloc ?_ _));exact BK105.out⟩,⟨by repeat (first|(with_reducible first|exact HB.out|apply below_alloc|apply pw_below_drewN|apply below_drew1|refine below_set ?_ GE105.out)|exact HB.out)⟩⟩
    case round =>
     clear H'
     try clear c1
     try clear p2
     try clear c4
     try clear c4b0
     try clear c4b1
     try clear c7
     try clear hcz5_0
     try clear hcz5_1
     try clear hcz6_0
     try clear hcz6_1
     try clear hfz5_0
     try clear hfz5_1
     try clear hfz6_0
     try clear hfz6_1
     try clear p2
     obtain ⟨x3_2,rfl,HA,HK2,BK105,HB⟩:=hrel
     cases gk with
     | zero=>exact absurd HA.out (by simp [cohousingref23_Few.l0])
     | succ k2 =>
      have H:=HA.out
      clear HA
      simp only [cohousingref23_Few.l0] at H
      by_cases c8:x3_2 < (l0_1.length:Int)
      ·
       rw [if_pos c8] at H
       have c8b0:decide (x3_2 < (l0_1.length:Int))=true:=decide_eq_true c8
       clear c8
       by_cases c9:0≤x3_2
       ·
        rw [if_pos c9] at H
        have c9b0:decide (0≤x3_2)=true:=decide_eq_true c9
        clear c9
        by_cases c10:(((rd_T41 l0_1 x3_2).f2).length:Int) > 30
        ·
         rw [if_pos c10] at H
         have c10b0:decide (30 < (((rd_T41 l0_1 x3_2).f2).length:Int))=true:=decide_eq_true c10
         have c10b1:decide (30 < ((rd_T41 l0_1 x3_2).f2).length)=true:=decide_eq_true (by omega)
         clear c10
         obtain rfl:=Option.some.inj H
         have hcz11_0:wr.cell? ⟨gb105,0,none⟩=some (.slice A0_0 l0_0.length c0_0):=(blk_cell BK105.out 0).trans rfl
         have hcz11_1:wr.cell? ⟨gb105,1,none⟩=some (.slice A0_1 l0_1.length c0_1):=(blk_cell BK105.out 1).trans rfl
         have hfz11_0:=blk_frozen BK105.out 0
         have hfz11_1:=blk_frozen BK105.out 1
         have p106:0≤(x3_2:Int):=zE (by first|(with_reducible assumption)|assumption)
         have q106:x3_2 < (l0_1.length:Int):=zE (by first|(with_reducible assumption)|assumption)
         obtain ⟨ad106,A106_2,c106_2,e106,hx106_0,hx106_1,hx106_2,hl106_2,hi106_2⟩:=at_T41 HR0_1.out x3_2 p106 q106
         cases e106
         replace hx106_0:=(HB.out.cell (World.block_lt_of_cell? w _ hx106_0)).trans hx106_0
         replace hx106_1:=(HB.out.cell (World.block_lt_of_cell? w _ hx106_1)).trans hx106_1
         replace hx106_2:=(HB.out.cell (World.block_lt_of_cell? w _ hx106_2)).trans hx106_2
         have HR106_2:=zF hi106_2
         have HC106_2:=zF hl106_2
         clear hi106_2 hl106_2
         replace p106:=eq_true p106
         replace q106:=eq_true q106
         go_wp2
         go_ret
         exact ⟨by first|rfl|(simp [errW_none,errW_some] <;> rfl)|(simp [*,errW_none,errW_some] <;> rfl),by repeat (first|(with_reducible first|exact HB.out|apply below_alloc|apply pw_below_drewN|apply below_drew1|refine below_set ?_ GE105.out)|exact HB.out)⟩
        ·
         rw [if_neg c10] at H
         have c10b0:decide (30 < (((rd_T41 l0_1 x3_2).f2).length:Int))=false:=decide_eq_false c10
         have c10b1:decide (30 < ((rd_T41 l0_1 x3_2).f2).length)=false:=decide_eq_false (by omega)
         clear c10
         have H':=zF H
         clear H
         have hcz12_0:wr.cell? ⟨gb105,0,none⟩=some (.slice A0_0 l0_0.length c0_0):=(blk_cell BK105.out 0).trans rfl
         have hcz12_1:wr.cell? ⟨gb105,1,none⟩=some (.slice A0_1 l0_1.length c0_1):=(blk_cell BK105.out 1).trans rfl
         have hfz12_0:=blk_frozen BK105.out 0
         have hfz12_1:=blk_frozen BK105.out 1
         have p106:0≤(x3_2:Int):=zE (by first|(with_reducible assumption)|assumption)
         have q106:x3_2 < (l0_1.length:Int):=zE (by first|(with_reducible assumption)|assumption)
         obtain ⟨ad106,A106_2,c106_2,e106,hx106_0,hx106_1,hx106_2,hl106_2,hi106_2⟩:=at_T41 HR0_1.out x3_2 p106 q106
         cases e106
         replace hx106_0:=(HB.out.cell (World.block_lt_of_cell? w _ hx106_0)).trans hx106_0
         replace hx106_1:=(HB.out.cell (World.block_lt_of_cell? w _ hx106_1)).trans hx106_1
         replace hx106_2:=(HB.out.cell (World.block_lt_of_cell? w _ hx106_2)).trans hx106_2
         have HR106_2:=zF hi106_2
         have HC106_2:=zF hl106_2
         clear hi106_2 hl106_2
         replace p106:=eq_true p106
         replace q106:=eq_true q106
         go_wp2
         go_roundg k2
         case measure=>have:=HJ1.out;have:=HK2.out;omega
         case rel=>exact ⟨(wrap64 (x3_2 + 1)),(by first|rfl|(simp;done)|(simp [*];done)),H',⟨by have:=HJ1.out;have:=HK2.out;omega⟩,⟨by (with_reducible repeat (first|refine blk_drewN ?_ _|refine blk_drew ?_|refine blk_alloc ?_ _));exact BK105.out⟩,⟨by repeat (first|(with_reducible first|exact HB.out|apply below_alloc|apply pw_below_drewN|apply below_drew1|refine below_set ?_ GE105.out)|exact HB.out)⟩⟩
       ·
        rw [if_neg c9] at H
        exact absurd H (by simp)
      ·
       rw [if_neg c8] at H
       have c8b0:decide (x3_2 < (l0_1.length:Int))=false:=decide_eq_false c8
       clear c8
       obtain rfl:=Option.some.inj H
       have hcz13_0:wr.cell? ⟨gb105,0,none⟩=some (.slice A0_0 l0_0.length c0_0):=(blk_cell BK105.out 0).trans rfl
       have hcz13_1:wr.cell? ⟨gb105,1,none⟩=some (.slice A0_1 l0_1.length c0_1):=(blk_cell BK105.out 1).trans rfl
       have hfz13_0:=blk_frozen BK105.out 0
       have hfz13_1:=blk_frozen BK105.out 1
       go_wp2
       go_ret
       exact ⟨by first|rfl|(simp [errW_none,errW_some] <;> rfl)|(simp [*,errW_none,errW_some] <;> rfl),by repeat (first|(with_reducible first|exact HB.out|apply below_alloc|apply pw_below_drewN|apply below_drew1|refine below_set ?_ GE105.out)|exact HB.out)⟩

end Go.Proofs.Ytjgnkhfgmpaljaa.P
namespace Go.Proofs.Ytjgnkhfgmpaljaa.P
open Go.RowKit Go.Proofs.YtjgnkhfgmpaljaaW.PrintWords Go.Proofs.YtjgnkhfgmpaljaaW.PrintLast Go.Proofs.YtjgnkhfgmpaljaaW.PrintMore
attribute [local go_sem] max2_int min2_int max_two min_two max_three min_three max_four min_four   -- for this text's walks alone
set_option linter.unusedVariables false
set_option linter.unusedSimpArgs false

def cohousingref23_In.l0:Nat→List Int→Int→Int→Option (Int)
 | 0,_,_,_=>none
 | k + 1,x0,x1,x5=>if x5 < (x0.length:Int) then (if 0≤x5 then (if (rd x0 x5)=x1 then (some x5) else (cohousingref23_In.l0 k x0 x1 (wrap64 (x5 + 1)))) else (none)) else (some (-1))
def cohousingref23_In.f (k:Nat) (l0:List Int) (a1:Int):Option (Int):=cohousingref23_In.l0 k l0 a1 0
theorem cohousingref23_In.mono_l:∀ k,(∀ y0 y1 y2,LeO (cohousingref23_In.l0 k y0 y1 y2) (cohousingref23_In.l0 (k + 1) y0 y1 y2))
 | 0=>fun _ _ _ r h=>by simp [cohousingref23_In.l0] at h
 | k + 1=>by
  have ih0:=cohousingref23_In.mono_l k
  ·
   intro y0 y1 y2
   unfold cohousingref23_In.l0
   repeat' first
   | (with_reducible exact ih0 _ _ _)
   | (with_reducible exact LeO.refl _)
   | (with_reducible exact LeO.none _)
   | (with_reducible refine LeO.ite ?_ ?_)
   | (with_reducible refine LeO.bind ?_ (fun _=>?_))
   | exact ih0 _ _ _
   | exact LeO.none _
   | refine LeO.ite ?_ ?_
   | refine LeO.bind ?_ (fun _=>?_)
theorem cohousingref23_In.mono:∀ a0 a1 k,LeO (cohousingref23_In.f k a0 a1) (cohousingref23_In.f (k + 1) a0 a1):=by
 intro a0 a1 k
 have ih0:=cohousingref23_In.mono_l k
 unfold cohousingref23_In.f
 repeat' first
   | (with_reducible exact ih0 _ _ _)
   | (with_reducible exact LeO.refl _)
   | (with_reducible exact LeO.none _)
   | (with_reducible refine LeO.ite ?_ ?_)
   | (with_reducible refine LeO.bind ?_ (fun _=>?_))
   | exact ih0 _ _ _
   | exact LeO.none _
   | refine LeO.ite ?_ ?_
   | refine LeO.bind ?_ (fun _=>?_)
set_option maxHeartbeats 8000000 in
set_option maxRecDepth 100000 in
theorem cohousingref23_In.calls (k:Nat) (A0:Option Addr) (c0:Nat) (l0:List Int) (a1:Int) (r:Int) (w:World) (hr0:Kd.C (Kd.int .i64) w A0 l0.length l0) (hc0:l0.length≤c0) (h:cohousingref23_In.f k l0 a1=some r) :
  Calls Try.prog 24 #[.slice A0 l0.length c0,.int .i64 a1] w fun e w'=>e = .returned (.int .i64 r)∧Drawn0 w w':=by
 have HR0:=zF hr0
 have HC0:=zF hc0
 clear hr0 hc0
 have H:(cohousingref23_In.l0 k l0 a1 0)=some r:=h
 clear h
 have H':=zF H
 clear H
 go_enter Try.func24,Try.ntmps24
 go_wp2
 go_loopg [5] k (fun kq v5 w'=>∃ (x5_1:Int),v5 = .int .i64 x5_1∧Aside0 (cohousingref23_In.l0 kq l0 a1 x5_1=some r)∧Aside0 (kq≤k)∧Drawn0 w w')
 case atStart=>exact ⟨(0),(by first|rfl|(simp;done)|(simp [*];done)),H',⟨Nat.le_refl _⟩,by repeat (first|exact Drawn0.refl _|apply Drawn0.step)⟩
 case round =>
  clear H'
  try clear c2
  try clear p2
  obtain ⟨x5_1,rfl,HA,HK1,⟨m1,rfl⟩⟩:=hrel
  cases gk with
  | zero=>exact absurd HA.out (by simp [cohousingref23_In.l0])
  | succ k1 =>
   have H:=HA.out
   clear HA
   simp only [cohousingref23_In.l0] at H
   by_cases c3:x5_1 < (l0.length:Int)
   ·
    rw [if_pos c3] at H
    have c3b0:decide (x5_1 < (l0.length:Int))=true:=decide_eq_true c3
    clear c3
    by_cases c4:0≤x5_1
    ·
     rw [if_pos c4] at H
     have c4b0:decide (0≤x5_1)=true:=decide_eq_true c4
     clear c4
     by_cases c5:(rd l0 x5_1)=a1
     ·
      rw [if_pos c5] at H
      have c5b0:((rd l0 x5_1) == a1)=true:=beq_iff_eq.mpr c5
      have c5b1:((rd l0 x5_1) != a1)=false:=bne_eq_false_iff_eq.mpr c5
      clear c5
      obtain rfl:=Option.some.inj H
      have p107:0≤(x5_1:Int):=zE (by first|(with_reducible assumption)|assumption)
      have q107:x5_1 < (l0.length:Int):=zE (by first|(with_reducible assumption)|assumption)
      obtain ⟨ad107,e107,hx107_0⟩:=Kd.at_int HR0.out x5_1 p107 q107
      cases e107
      replace p107:=eq_true p107
      replace q107:=eq_true q107
      go_wp2
      go_ret
      exact ⟨by first|rfl|(simp;done)|(simp [*];done),by repeat (first|exact Drawn0.refl _|apply Drawn0.step)⟩
     ·
      rw [if_neg c5] at H
      have c5b0:((rd l0 x5_1) == a1)=false:=beq_eq_false_iff_ne.mpr c5
      have c5b1:((rd l0 x5_1) != a1)=true:=bne_iff_ne.mpr c5
      have H':=zF H
      clear H
      have p107:0≤(x5_1:Int):=zE (by first|(with_reducible assumption)|assumption)
      have q107:x5_1 < (l0.length:Int):=zE (by first|(with_reducible assumption)|assumption)
      obtain ⟨ad107,e107,hx107_0⟩:=Kd.at_int HR0.out x5_1 p107 q107
      cases e107
      replace p107:=eq_true p107
      replace q107:=eq_true q107
      go_wp2
      go_roundg k1
      case measure=>have:=HK1.out;omega
      case rel=>exact ⟨(wrap64 (x5_1 + 1)),(by first|rfl|(simp;done)|(simp [*];done)),H',⟨by have:=HK1.out;omega⟩,by repeat (first|exact Drawn0.refl _|apply Drawn0.step)⟩
    ·
     rw [if_neg c4] at H
     exact absurd H (by simp)
   ·
    rw [if_neg c3] at H
    have c3b0:decide (x5_1 < (l0.length:Int))=false:=decide_eq_false c3
    clear c3
    obtain rfl:=Option.some.inj H
    go_wp2
    go_ret
    exact ⟨by first|rfl|(simp;done)|(simp [*];done),by repeat (first|exact Drawn0.refl _|apply Drawn0.step)⟩

end Go.Proofs.Ytjgnkhfgmpaljaa.P
namespace Go.Proofs.Ytjgnkhfgmpaljaa.P
open Go.RowKit Go.Proofs.YtjgnkhfgmpaljaaW.PrintWords Go.Proofs.YtjgnkhfgmpaljaaW.PrintLast Go.Proofs.YtjgnkhfgmpaljaaW.PrintMore
attribute [local go_sem] max2_int min2_int max_two min_two max_three min_three max_four min_four   -- for this text's walks alone
set_option linter.unusedVariables false
set_option linter.unusedSimpArgs false

def cohousingref23_Has.l0:Nat→List (S53)→Int→Int→Option (Bool)
 | 0,_,_,_=>none
 | k + 1,x0,x1,x5=>if x5 < (x0.length:Int) then (if 0≤x5 then (if ((rd_T53 x0 x5).f0)=x1 then (some true) else (cohousingref23_Has.l0 k x0 x1 (wrap64 (x5 + 1)))) else (none)) else (some false)
def cohousingref23_Has.f (k:Nat) (l0:List (S53)) (a1:Int):Option (Bool):=cohousingref23_Has.l0 k l0 a1 0
theorem cohousingref23_Has.mono_l:∀ k,(∀ y0 y1 y2,LeO (cohousingref23_Has.l0 k y0 y1 y2) (cohousingref23_Has.l0 (k + 1) y0 y1 y2))
 | 0=>fun _ _ _ r h=>by simp [cohousingref23_Has.l0] at h
 | k + 1=>by
  have ih0:=cohousingref23_Has.mono_l k
  ·
   intro y0 y1 y2
   unfold cohousingref23_Has.l0
   repeat' first
   | (with_reducible exact ih0 _ _ _)
   | (with_reducible exact LeO.refl _)
   | (with_reducible exact LeO.none _)
   | (with_reducible refine LeO.ite ?_ ?_)
   | (with_reducible refine LeO.bind ?_ (fun _=>?_))
   | exact ih0 _ _ _
   | exact LeO.none _
   | refine LeO.ite ?_ ?_
   | refine LeO.bind ?_ (fun _=>?_)
theorem cohousingref23_Has.mono:∀ a0 a1 k,LeO (cohousingref23_Has.f k a0 a1) (cohousingref23_Has.f (k + 1) a0 a1):=by
 intro a0 a1 k
 have ih0:=cohousingref23_Has.mono_l k
 unfold cohousingref23_Has.f
 repeat' first
   | (with_reducible exact ih0 _ _ _)
   | (with_reducible exact LeO.refl _)
   | (with_reducible exact LeO.none _)
   | (with_reducible refine LeO.ite ?_ ?_)
   | (with_reducible refine LeO.bind ?_ (fun _=>?_))
   | exact ih0 _ _ _
   | exact LeO.none _
   | refine LeO.ite ?_ ?_
   | refine LeO.bind ?_ (fun _=>?_)
set_option maxHeartbeats 8000000 in
set_option maxRecDepth 100000 in
theorem cohousingref23_Has.calls (k:Nat) (A0:Option Addr) (c0:Nat) (l0:List (S53)) (a1:Int) (r:Bool) (w:World) (hr0:Kd.C k53 w A0 l0.length l0) (hc0:l0.length≤c0) (h:cohousingref23_Has.f k l0 a1=some r) :
  Calls Try.prog 25 #[.slice A0 l0.length c0,.int .i64 a1] w fun e w'=>e = .returned (.bool r)∧Drawn0 w w':=by
 have HR0:=zF hr0
 have HC0:=zF hc0
 clear hr0 hc0
 have H:(cohousingref23_Has.l0 k l0 a1 0)=some r:=h
 clear h
 have H':=zF H
 clear H
 go_enter Try.func25,Try.ntmps25
 go_wp2
 go_loopg [5] k (fun kq v5 w'=>∃ (x5_1:Int),v5 = .int .i64 x5_1∧Aside0 (cohousingref23_Has.l0 kq l0 a1 x5_1=some r)∧Aside0 (kq≤k)∧Drawn0 w w')
 case atStart=>exact ⟨(0),(by first|rfl|(simp;done)|(simp [*];done)),H',⟨Nat.le_refl _⟩,by repeat (first|exact Drawn0.refl _|apply Drawn0.step)⟩
 case round =>
  clear H'
  try clear c2
  try clear p2
  obtain ⟨x5_1,rfl,HA,HK1,⟨m1,rfl⟩⟩:=hrel
  cases gk with
  | zero=>exact absurd HA.out (by simp [cohousingref23_Has.l0])
  | succ k1 =>
   have H:=HA.out
   clear HA
   simp only [cohousingref23_Has.l0] at H
   by_cases c3:x5_1 < (l0.length:Int)
   ·
    rw [if_pos c3] at H
    have c3b0:decide (x5_1 < (l0.length:Int))=true:=decide_eq_true c3
    clear c3
    by_cases c4:0≤x5_1
    ·
     rw [if_pos c4] at H
     have c4b0:decide (0≤x5_1)=true:=decide_eq_true c4
     clear c4
     by_cases c5:((rd_T53 l0 x5_1).f0)=a1
     ·
      rw [if_pos c5] at H
      have c5b0:(((rd_T53 l0 x5_1).f0) == a1)=true:=beq_iff_eq.mpr c5
      have c5b1:(((rd_T53 l0 x5_1).f0) != a1)=false:=bne_eq_false_iff_eq.mpr c5
      clear c5
      obtain rfl:=Option.some.inj H
      have p108:0≤(x5_1:Int):=zE (by first|(with_reducible assumption)|assumption)
      have q108:x5_1 < (l0.length:Int):=zE (by first|(with_reducible assumption)|assumption)
      obtain ⟨ad108,e108,hx108_0,hx108_1⟩:=at_T53 HR0.out x5_1 p108 q108
      cases e108
      replace p108:=eq_true p108
      replace q108:=eq_true q108
      go_wp2
      go_ret
      exact ⟨by first|rfl|(simp;done)|(simp [*];done),by repeat (first|exact Drawn0.refl _|apply Drawn0.step)⟩
     ·
      rw [if_neg c5] at H
      have c5b0:(((rd_T53 l0 x5_1).f0) == a1)=false:=beq_eq_false_iff_ne.mpr c5
      have c5b1:(((rd_T53 l0 x5_1).f0) != a1)=true:=bne_iff_ne.mpr c5
      have H':=zF H
      clear H
      have p108:0≤(x5_1:Int):=zE (by first|(with_reducible assumption)|assumption)
      have q108:x5_1 < (l0.length:Int):=zE (by first|(with_reducible assumption)|assumption)
      obtain ⟨ad108,e108,hx108_0,hx108_1⟩:=at_T53 HR0.out x5_1 p108 q108
      cases e108
      replace p108:=eq_true p108
      replace q108:=eq_true q108
      go_wp2
      go_roundg k1
      case measure=>have:=HK1.out;omega
      case rel=>exact ⟨(wrap64 (x5_1 + 1)),(by first|rfl|(simp;done)|(simp [*];done)),H',⟨by have:=HK1.out;omega⟩,by repeat (first|exact Drawn0.refl _|apply Drawn0.step)⟩
    ·
     rw [if_neg c4] at H
     exact absurd H (by simp)
   ·
    rw [if_neg c3] at H
    have c3b0:decide (x5_1 < (l0.length:Int))=false:=decide_eq_false c3
    clear c3
    obtain rfl:=Option.some.inj H
    go_wp2
    go_ret
    exact ⟨by first|rfl|(simp;done)|(simp [*];done),by repeat (first|exact Drawn0.refl _|apply Drawn0.step)⟩

end Go.Proofs.Ytjgnkhfgmpaljaa.P
namespace Go.Proofs.Ytjgnkhfgmpaljaa.P
open Go.RowKit Go.Proofs.YtjgnkhfgmpaljaaW.PrintWords Go.Proofs.YtjgnkhfgmpaljaaW.PrintLast Go.Proofs.YtjgnkhfgmpaljaaW.PrintMore
attribute [local go_sem] max2_int min2_int max_two min_two max_three min_three max_four min_four   -- for this text's walks alone
set_option linter.unusedVariables false
set_option linter.unusedSimpArgs false

def cohousingref23_Flats.l0:Nat→List (S53)→Int→Option (Bool)
 | 0,_,_=>none
 | k + 1,x0,x3=>if x3 < (x0.length:Int) then (if 0≤x3 then (if ((rd_T53 x0 x3).f0) < 1 then (some false) else (if ((rd_T53 x0 x3).f0) > 64 then (some false) else (if x3 > 0 then (if 0≤(wrap64 (x3 - 1)) then (if (wrap64 (x3 - 1)) < (x0.length:Int) then (if ((rd_T53 x0 x3).f0)≤((rd_T53 x0 (wrap64 (x3 - 1))).f0) then (some false) else (if ((rd_T53 x0 x3).f1) < 1 then (some false) else (if ((rd_T53 x0 x3).f1) > 10 then (some false) else (cohousingref23_Flats.l0 k x0 (wrap64 (x3 + 1)))))) else (none)) else (none)) else (if ((rd_T53 x0 x3).f1) < 1 then (some false) else (if ((rd_T53 x0 x3).f1) > 10 then (some false) else (cohousingref23_Flats.l0 k x0 (wrap64 (x3 + 1)))))))) else (none)) else (some true)
def cohousingref23_Flats.f (k:Nat) (l0:List (S53)):Option (Bool):=if (l0.length:Int) > 64 then (some false) else (cohousingref23_Flats.l0 k l0 0)
theorem cohousingref23_Flats.mono_l:∀ k,(∀ y0 y1,LeO (cohousingref23_Flats.l0 k y0 y1) (cohousingref23_Flats.l0 (k + 1) y0 y1))
 | 0=>fun _ _ r h=>by simp [cohousingref23_Flats.l0] at h
 | k + 1=>by
  have ih0:=cohousingref23_Flats.mono_l k
  ·
   intro y0 y1
   unfold cohousingref23_Flats.l0
   repeat' first
   | (with_reducible exact ih0 _ _)
   | (with_reducible exact LeO.refl _)
   | (with_reducible exact LeO.none _)
   | (with_reducible refine LeO.ite ?_ ?_)
   | (with_reducible refine LeO.bind ?_ (fun _=>?_))
   | exact ih0 _ _
   | exact LeO.none _
   | refine LeO.ite ?_ ?_
   | refine LeO.bind ?_ (fun _=>?_)
theorem cohousingref23_Flats.mono:∀ a0 k,LeO (cohousingref23_Flats.f k a0) (cohousingref23_Flats.f (k + 1) a0):=by
 intro a0 k
 have ih0:=cohousingref23_Flats.mono_l k
 unfold cohousingref23_Flats.f
 repeat' first
   | (with_reducible exact ih0 _ _)
   | (with_reducible exact LeO.refl _)
   | (with_reducible exact LeO.none _)
   | (with_reducible refine LeO.ite ?_ ?_)
   | (with_reducible refine LeO.bind ?_ (fun _=>?_))
   | exact ih0 _ _
   | exact LeO.none _
   | refine LeO.ite ?_ ?_
   | refine LeO.bind ?_ (fun _=>?_)
set_option maxHeartbeats 8000000 in
set_option maxRecDepth 100000 in
theorem cohousingref23_Flats.calls (k:Nat) (A0:Option Addr) (c0:Nat) (l0:List (S53)) (r:Bool) (w:World) (hr0:Kd.C k53 w A0 l0.length l0) (hc0:l0.length≤c0) (h:cohousingref23_Flats.f k l0=some r) :
  Calls Try.prog 53 #[.slice A0 l0.length c0] w fun e w'=>e = .returned (.bool r)∧Drawn0 w w':=by
 have HR0:=zF hr0
 have HC0:=zF hc0
 clear hr0 hc0
 have H:(if (l0.length:Int) > 64 then (some false) else (cohousingref23_Flats.l0 k l0 0))=some r:=h
 clear h
 by_cases c2:(l0.length:Int) > 64
 ·
  rw [if_pos c2] at H
  have c2b0:decide (64 < (l0.length:Int))=true:=decide_eq_true c2
  have c2b1:decide (64 < l0.length)=true:=decide_eq_true (by omega)
  clear c2
  obtain rfl:=Option.some.inj H
  go_enter Try.func53,Try.ntmps53
  go_wp2
  repeat (go_quiet (fail);try go_wp2)
  go_ret
  exact ⟨by first|rfl|(simp;done)|(simp [*];done),by repeat (first|exact Drawn0.refl _|apply Drawn0.step)⟩
 ·
  rw [if_neg c2] at H
  have c2b0:decide (64 < (l0.length:Int))=false:=decide_eq_false c2
  have c2b1:decide (64 < l0.length)=false:=decide_eq_false (by omega)
  clear c2
  have H':=zF H
  clear H
  go_enter Try.func53,Try.ntmps53
  go_wp2
  repeat (go_quiet (fail);try go_wp2)
  go_loopg [3] k (fun kq v3 w'=>∃ (x3_1:Int),v3 = .int .i64 x3_1∧Aside0 (cohousingref23_Flats.l0 kq l0 x3_1=some r)∧Aside0 (kq≤k)∧Drawn0 w w')
  case atStart=>exact ⟨(0),(by first|rfl|(simp;done)|(simp [*];done)),H',⟨Nat.le_refl _⟩,by repeat (first|exact Drawn0.refl _|apply Drawn0.step)⟩
  case round =>
   clear H'
   try clear c2
   try clear c2b0
   try clear c2b1
   try clear p2
   obtain ⟨x3_1,rfl,HA,HK1,⟨m1,rfl⟩⟩:=hrel
   cases gk with
   | zero=>exact absurd HA.out (by simp [cohousingref23_Flats.l0])
   | succ k1 =>
    have H:=HA.out
    clear HA
    simp only [cohousingref23_Flats.l0] at H
    by_cases c3:x3_1 < (l0.length:Int)
    ·
     rw [if_pos c3] at H
     have c3b0:decide (x3_1 < (l0.length:Int))=true:=decide_eq_true c3
     clear c3
     by_cases c4:0≤x3_1
     ·
      rw [if_pos c4] at H
      have c4b0:decide (0≤x3_1)=true:=decide_eq_true c4
      clear c4
      by_cases c5:((rd_T53 l0 x3_1).f0) < 1
      ·
       rw [if_pos c5] at H
       have c5b0:decide (((rd_T53 l0 x3_1).f0) < 1)=true:=decide_eq_true c5
       clear c5
       obtain rfl:=Option.some.inj H
       have p109:0≤(x3_1:Int):=zE (by first|(with_reducible assumption)|assumption)
       have q109:x3_1 < (l0.length:Int):=zE (by first|(with_reducible assumption)|assumption)
       obtain ⟨ad109,e109,hx109_0,hx109_1⟩:=at_T53 HR0.out x3_1 p109 q109
       cases e109
       replace p109:=eq_true p109
       replace q109:=eq_true q109
       go_wp2
       repeat (go_quiet (fail);try go_wp2)
       go_ret
       exact ⟨by first|rfl|(simp;done)|(simp [*];done),by repeat (first|exact Drawn0.refl _|apply Drawn0.step)⟩
      ·
       rw [if_neg c5] at H
       have c5b0:decide (((rd_T53 l0 x3_1).f0) < 1)=false:=decide_eq_false c5
       clear c5
       by_cases c6:((rd_T53 l0 x3_1).f0) > 64
       ·
        rw [if_pos c6] at H
        have c6b0:decide (64 < ((rd_T53 l0 x3_1).f0))=true:=decide_eq_true c6
        clear c6
        obtain rfl:=Option.some.inj H
        have p109:0≤(x3_1:Int):=zE (by first|(with_reducible assumption)|assumption)
        have q109:x3_1 < (l0.length:Int):=zE (by first|(with_reducible assumption)|assumption)
        obtain ⟨ad109,e109,hx109_0,hx109_1⟩:=at_T53 HR0.out x3_1 p109 q109
        cases e109
        replace p109:=eq_true p109
        replace q109:=eq_true q109
        have p110:0≤(x3_1:Int):=zE (by first|(with_reducible assumption)|assumption)
        have q110:x3_1 < (l0.length:Int):=zE (by first|(with_reducible assumption)|assumption)
        obtain ⟨ad110,e110,hx110_0,hx110_1⟩:=at_T53 HR0.out x3_1 p110 q110
        obtain rfl:ad109=ad110:=(by injection e110)
        replace p110:=eq_true p110
        replace q110:=eq_true q110
        go_wp2
        repeat (go_quiet (fail);try go_wp2)
        go_ret
        exact ⟨by first|rfl|(simp;done)|(simp [*];done),by repeat (first|exact Drawn0.refl _|apply Drawn0.step)⟩
       ·
        rw [if_neg c6] at H
        have c6b0:decide (64 < ((rd_T53 l0 x3_1).f0))=false:=decide_eq_false c6
        clear c6
        by_cases c7:x3_1 > 0
        ·
         rw [if_pos c7] at H
         have c7b0:decide (0 < x3_1)=true:=decide_eq_true c7
         clear c7
         obtain ⟨ji8,hji8⟩:∃ j_:Int,(wrap64 (x3_1 - 1))=j_:=⟨_,rfl⟩
         replace H:(if 0≤(ji8) then (if (ji8) < (l0.length:Int) then (if ((rd_T53 l0 x3_1).f0)≤((rd_T53 l0 (ji8)).f0) then (some false) else (if ((rd_T53 l0 x3_1).f1) < 1 then (some false) else (if ((rd_T53 l0 x3_1).f1) > 10 then (some false) else (cohousingref23_Flats.l0 k1 l0 (wrap64 (x3_1 + 1)))))) else (none)) else (none))=some r:=by first|(rw [hji8] at H;exact H)|(simp only [hji8] at H ⊢;exact H)
         have hji8w:(IntKind.i64.wrap (x3_1 - 1))=ji8:=(i64_w _).trans hji8
         by_cases c9:0≤(ji8)
         ·
          rw [if_pos c9] at H
          have c9b0:decide (0≤(ji8))=true:=decide_eq_true c9
          clear c9
          by_cases c10:(ji8) < (l0.length:Int)
          ·
           rw [if_pos c10] at H
           have c10b0:decide ((ji8) < (l0.length:Int))=true:=decide_eq_true c10
           clear c10
           by_cases c11:((rd_T53 l0 x3_1).f0)≤((rd_T53 l0 (ji8)).f0)
           ·
            rw [if_pos c11] at H
            have c11b0:decide (((rd_T53 l0 x3_1).f0)≤((rd_T53 l0 (ji8)).f0))=true:=decide_eq_true c11
            clear c11
            obtain rfl:=Option.some.inj H
            have p109:0≤(x3_1:Int):=zE (by first|(with_reducible assumption)|assumption)
            have q109:x3_1 < (l0.length:Int):=zE (by first|(with_reducible assumption)|assumption)
            obtain ⟨ad109,e109,hx109_0,hx109_1⟩:=at_T53 HR0.out x3_1 p109 q109
            cases e109
            replace p109:=eq_true p109
            replace q109:=eq_true q109
            have p110:0≤(x3_1:Int):=zE (by first|(with_reducible assumption)|assumption)
            have q110:x3_1 < (l0.length:Int):=zE (by first|(with_reducible assumption)|assumption)
            obtain ⟨ad110,e110,hx110_0,hx110_1⟩:=at_T53 HR0.out x3_1 p110 q110
            obtain rfl:ad109=ad110:=(by injection e110)
            replace p110:=eq_true p110
            replace q110:=eq_true q110
            have p111:0≤(x3_1:Int):=zE (by first|(with_reducible assumption)|assumption)
            have q111:x3_1 < (l0.length:Int):=zE (by first|(with_reducible assumption)|assumption)
            obtain ⟨ad111,e111,hx111_0,hx111_1⟩:=at_T53 HR0.out x3_1 p111 q111
            obtain rfl:ad109=ad111:=(by injection e111)
            replace p111:=eq_true p111
            replace q111:=eq_true q111
            have p112:0≤((ji8):Int):=zE (by first|(with_reducible assumption)|assumption)
            have q112:(ji8) < (l0.length:Int):=zE (by first|(with_reducible assumption)|assumption)
            obtain ⟨ad112,e112,hx112_0,hx112_1⟩:=at_T53 HR0.out (ji8) p112 q112
            obtain rfl:ad109=ad112:=(by injection e112)
            replace p112:=eq_true p112
            replace q112:=eq_true q112
            go_wp2
            repeat (go_quiet (fail);try go_wp2)
            go_ret
            exact ⟨by first|rfl|(simp;done)|(simp only [← hji8] <;> (first|rfl|simp))|(simp [*];done),by repeat (first|exact Drawn0.refl _|apply Drawn0.step)⟩
           ·
            rw [if_neg c11] at H
            have c11b0:decide (((rd_T53 l0 x3_1).f0)≤((rd_T53 l0 (ji8)).f0))=false:=decide_eq_false c11
            clear c11
            by_cases c12:((rd_T53 l0 x3_1).f1) < 1
            ·
             rw [if_pos c12] at H
             have c12b0:decide (((rd_T53 l0 x3_1).f1) < 1)=true:=decide_eq_true c12
             clear c12
             obtain rfl:=Option.some.inj H
             have p109:0≤(x3_1:Int):=zE (by first|(with_reducible assumption)|assumption)
             have q109:x3_1 < (l0.length:Int):=zE (by first|(with_reducible assumption)|assumption)
             obtain ⟨ad109,e109,hx109_0,hx109_1⟩:=at_T53 HR0.out x3_1 p109 q109
             cases e109
             replace p109:=eq_true p109
             replace q109:=eq_true q109
             have p110:0≤(x3_1:Int):=zE (by first|(with_reducible assumption)|assumption)
             have q110:x3_1 < (l0.length:Int):=zE (by first|(with_reducible assumption)|assumption)
             obtain ⟨ad110,e110,hx110_0,hx110_1⟩:=at_T53 HR0.out x3_1 p110 q110
             obtain rfl:ad109=ad110:=(by injection e110)
             replace p110:=eq_true p110
             replace q110:=eq_true q110
             have p111:0≤(x3_1:Int):=zE (by first|(with_reducible assumption)|assumption)
             have q111:x3_1 < (l0.length:Int):=zE (by first|(with_reducible assumption)|assumption)
             obtain ⟨ad111,e111,hx111_0,hx111_1⟩:=at_T53 HR0.out x3_1 p111 q111
             obtain rfl:ad109=ad111:=(by injection e111)
             replace p111:=eq_true p111
             replace q111:=eq_true q111
             have p112:0≤((ji8):Int):=zE (by first|(with_reducible assumption)|assumption)
             have q112:(ji8) < (l0.length:Int):=zE (by first|(with_reducible assumption)|assumption)
             obtain ⟨ad112,e112,hx112_0,hx112_1⟩:=at_T53 HR0.out (ji8) p112 q112
             obtain rfl:ad109=ad112:=(by injection e112)
             replace p112:=eq_true p112
             replace q112:=eq_true q112
             have p113:0≤(x3_1:Int):=zE (by first|(with_reducible assumption)|assumption)
             have q113:x3_1 < (l0.length:Int):=zE (by first|(with_reducible assumption)|assumption)
             obtain ⟨ad113,e113,hx113_0,hx113_1⟩:=at_T53 HR0.out x3_1 p113 q113
             obtain rfl:ad109=ad113:=(by injection e113)
             replace p113:=eq_true p113
             replace q113:=eq_true q113
             go_wp2
             repeat (go_quiet (fail);try go_wp2)
             go_ret
             exact ⟨by first|rfl|(simp;done)|(simp only [← hji8] <;> (first|rfl|simp))|(simp [*];done),by repeat (first|exact Drawn0.refl _|apply Drawn0.step)⟩
            ·
             rw [if_neg c12] at H
             have c12b0:decide (((rd_T53 l0 x3_1).f1) < 1)=false:=decide_eq_false c12
             clear c12
             by_cases c13:((rd_T53 l0 x3_1).f1) > 10
             ·
              rw [if_pos c13] at H
              have c13b0:decide (10 < ((rd_T53 l0 x3_1).f1))=true:=decide_eq_true c13
              clear c13
              obtain rfl:=Option.some.inj H
              have p109:0≤(x3_1:Int):=zE (by first|(with_reducible assumption)|assumption)
              have q109:x3_1 < (l0.length:Int):=zE (by first|(with_reducible assumption)|assumption)
              obtain ⟨ad109,e109,hx109_0,hx109_1⟩:=at_T53 HR0.out x3_1 p109 q109
              cases e109
              replace p109:=eq_true p109
              replace q109:=eq_true q109
              have p110:0≤(x3_1:Int):=zE (by first|(with_reducible assumption)|assumption)
              have q110:x3_1 < (l0.length:Int):=zE (by first|(with_reducible assumption)|assumption)
              obtain ⟨ad110,e110,hx110_0,hx110_1⟩:=at_T53 HR0.out x3_1 p110 q110
              obtain rfl:ad109=ad110:=(by injection e110)
              replace p110:=eq_true p110
              replace q110:=eq_true q110
              have p111:0≤(x3_1:Int):=zE (by first|(with_reducible assumption)|assumption)
              have q111:x3_1 < (l0.length:Int):=zE (by first|(with_reducible assumption)|assumption)
              obtain ⟨ad111,e111,hx111_0,hx111_1⟩:=at_T53 HR0.out x3_1 p111 q111
              obtain rfl:ad109=ad111:=(by injection e111)
              replace p111:=eq_true p111
              replace q111:=eq_true q111
              have p112:0≤((ji8):Int):=zE (by first|(with_reducible assumption)|assumption)
              have q112:(ji8) < (l0.length:Int):=zE (by first|(with_reducible assumption)|assumption)
              obtain ⟨ad112,e112,hx112_0,hx112_1⟩:=at_T53 HR0.out (ji8) p112 q112
              obtain rfl:ad109=ad112:=(by injection e112)
              replace p112:=eq_true p112
              replace q112:=eq_true q112
              have p113:0≤(x3_1:Int):=zE (by first|(with_reducible assumption)|assumption)
              have q113:x3_1 < (l0.length:Int):=zE (by first|(with_reducible assumption)|assumption)
              obtain ⟨ad113,e113,hx113_0,hx113_1⟩:=at_T53 HR0.out x3_1 p113 q113
              obtain rfl:ad109=ad113:=(by injection e113)
              replace p113:=eq_true p113
              replace q113:=eq_true q113
              have p114:0≤(x3_1:Int):=zE (by first|(with_reducible assumption)|assumption)
              have q114:x3_1 < (l0.length:Int):=zE (by first|(with_reducible assumption)|assumption)
              obtain ⟨ad114,e114,hx114_0,hx114_1⟩:=at_T53 HR0.out x3_1 p114 q114
              obtain rfl:ad109=ad114:=(by injection e114)
              replace p114:=eq_true p114
              replace q114:=eq_true q114
              go_wp2
              repeat (go_quiet (fail);try go_wp2)
              go_ret
              exact ⟨by first|rfl|(simp;done)|(simp only [← hji8] <;> (first|rfl|simp))|(simp [*];done),by repeat (first|exact Drawn0.refl _|apply Drawn0.step)⟩
             ·
              rw [if_neg c13] at H
              have c13b0:decide (10 < ((rd_T53 l0 x3_1).f1))=false:=decide_eq_false c13
              clear c13
              have H':=zF H
              clear H
              have p109:0≤(x3_1:Int):=zE (by first|(with_reducible assumption)|assumption)
              have q109:x3_1 < (l0.length:Int):=zE (by first|(with_reducible assumption)|assumption)
              obtain ⟨ad109,e109,hx109_0,hx109_1⟩:=at_T53 HR0.out x3_1 p109 q109
              cases e109
              replace p109:=eq_true p109
              replace q109:=eq_true q109
              have p110:0≤(x3_1:Int):=zE (by first|(with_reducible assumption)|assumption)
              have q110:x3_1 < (l0.length:Int):=zE (by first|(with_reducible assumption)|assumption)
              obtain ⟨ad110,e110,hx110_0,hx110_1⟩:=at_T53 HR0.out x3_1 p110 q110
              obtain rfl:ad109=ad110:=(by injection e110)
              replace p110:=eq_true p110
              replace q110:=eq_true q110
              have p111:0≤(x3_1:Int):=zE (by first|(with_reducible assumption)|assumption)
              have q111:x3_1 < (l0.length:Int):=zE (by first|(with_reducible assumption)|assumption)
              obtain ⟨ad111,e111,hx111_0,hx111_1⟩:=at_T53 HR0.out x3_1 p111 q111
              obtain rfl:ad109=ad111:=(by injection e111)
              replace p111:=eq_true p111
              replace q111:=eq_true q111
              have p112:0≤((ji8):Int):=zE (by first|(with_reducible assumption)|assumption)
              have q112:(ji8) < (l0.length:Int):=zE (by first|(with_reducible assumption)|assumption)
              obtain ⟨ad112,e112,hx112_0,hx112_1⟩:=at_T53 HR0.out (ji8) p112 q112
              obtain rfl:ad109=ad112:=(by injection e112)
              replace p112:=eq_true p112
              replace q112:=eq_true q112
              have p113:0≤(x3_1:Int):=zE (by first|(with_reducible assumption)|assumption)
              have q113:x3_1 < (l0.length:Int):=zE (by first|(with_reducible assumption)|assumption)
              obtain ⟨ad113,e113,hx113_0,hx113_1⟩:=at_T53 HR0.out x3_1 p113 q113
              obtain rfl:ad109=ad113:=(by injection e113)
              replace p113:=eq_true p113
              replace q113:=eq_true q113
              have p114:0≤(x3_1:Int):=zE (by first|(with_reducible assumption)|assumption)
              have q114:x3_1 < (l0.length:Int):=zE (by first|(with_reducible assumption)|assumption)
              obtain ⟨ad114,e114,hx114_0,hx114_1⟩:=at_T53 HR0.out x3_1 p114 q114
              obtain rfl:ad109=ad114:=(by injection e114)
              replace p114:=eq_true p114
              replace q114:=eq_true q114
              go_wp2
              repeat (go_quiet (fail);try go_wp2)
              go_roundg k1
              case measure=>have:=HK1.out;omega
              case rel=>exact ⟨(wrap64 (x3_1 + 1)),(by first|rfl|(simp;done)|(simp [*];done)),H',⟨by have:=HK1.out;omega⟩,by repeat (first|exact Drawn0.refl _|apply Drawn0.step)⟩
          ·
           rw [if_neg c10] at H
           exact absurd H (by simp)
         ·
          rw [if_neg c9] at H
          exact absurd H (by simp)
        ·
         rw [if_neg c7] at H
         have c7b0:decide (0 < x3_1)=false:=decide_eq_false c7
         clear c7
         by_cases c14:((rd_T53 l0 x3_1).f1) < 1
         ·
          rw [if_pos c14] at H
          have c14b0:decide (((rd_T53 l0 x3_1).f1) < 1)=true:=decide_eq_true c14
          clear c14
          obtain rfl:=Option.some.inj H
          have p109:0≤(x3_1:Int):=zE (by first|(with_reducible assumption)|assumption)
          have q109:x3_1 < (l0.length:Int):=zE (by first|(with_reducible assumption)|assumption)
          obtain ⟨ad109,e109,hx109_0,hx109_1⟩:=at_T53 HR0.out x3_1 p109 q109
          cases e109
          replace p109:=eq_true p109
          replace q109:=eq_true q109
          have p110:0≤(x3_1:Int):=zE (by first|(with_reducible assumption)|assumption)
          have q110:x3_1 < (l0.length:Int):=zE (by first|(with_reducible assumption)|assumption)
          obtain ⟨ad110,e110,hx110_0,hx110_1⟩:=at_T53 HR0.out x3_1 p110 q110
          obtain rfl:ad109=ad110:=(by injection e110)
          replace p110:=eq_true p110
          replace q110:=eq_true q110
          have p115:0≤(x3_1:Int):=zE (by first|(with_reducible assumption)|assumption)
          have q115:x3_1 < (l0.length:Int):=zE (by first|(with_reducible assumption)|assumption)
          obtain ⟨ad115,e115,hx115_0,hx115_1⟩:=at_T53 HR0.out x3_1 p115 q115
          obtain rfl:ad109=ad115:=(by injection e115)
          replace p115:=eq_true p115
          replace q115:=eq_true q115
          go_wp2
          repeat (go_quiet (fail);try go_wp2)
          go_ret
          exact ⟨by first|rfl|(simp;done)|(simp [*];done),by repeat (first|exact Drawn0.refl _|apply Drawn0.step)⟩
         ·
          rw [if_neg c14] at H
          have c14b0:decide (((rd_T53 l0 x3_1).f1) < 1)=false:=decide_eq_false c14
          clear c14
          by_cases c15:((rd_T53 l0 x3_1).f1) > 10
          ·
           rw [if_pos c15] at H
           have c15b0:decide (10 < ((rd_T53 l0 x3_1).f1))=true:=decide_eq_true c15
           clear c15
           obtain rfl:=Option.some.inj H
           have p109:0≤(x3_1:Int):=zE (by first|(with_reducible assumption)|assumption)
           have q109:x3_1 < (l0.length:Int):=zE (by first|(with_reducible assumption)|assumption)
           obtain ⟨ad109,e109,hx109_0,hx109_1⟩:=at_T53 HR0.out x3_1 p109 q109
           cases e109
           replace p109:=eq_true p109
           replace q109:=eq_true q109
           have p110:0≤(x3_1:Int):=zE (by first|(with_reducible assumption)|assumption)
           have q110:x3_1 < (l0.length:Int):=zE (by first|(with_reducible assumption)|assumption)
           obtain ⟨ad110,e110,hx110_0,hx110_1⟩:=at_T53 HR0.out x3_1 p110 q110
           obtain rfl:ad109=ad110:=(by injection e110)
           replace p110:=eq_true p110
           replace q110:=eq_true q110
           have p115:0≤(x3_1:Int):=zE (by first|(with_reducible assumption)|assumption)
           have q115:x3_1 < (l0.length:Int):=zE (by first|(with_reducible assumption)|assumption)
           obtain ⟨ad115,e115,hx115_0,hx115_1⟩:=at_T53 HR0.out x3_1 p115 q115
           obtain rfl:ad109=ad115:=(by injection e115)
           replace p115:=eq_true p115
           replace q115:=eq_true q115
           have p116:0≤(x3_1:Int):=zE (by first|(with_reducible assumption)|assumption)
           have q116:x3_1 < (l0.length:Int):=zE (by first|(with_reducible assumption)|assumption)
           obtain ⟨ad116,e116,hx116_0,hx116_1⟩:=at_T53 HR0.out x3_1 p116 q116
           obtain rfl:ad109=ad116:=(by injection e116)
           replace p116:=eq_true p116
           replace q116:=eq_true q116
           go_wp2
           repeat (go_quiet (fail);try go_wp2)
           go_ret
           exact ⟨by first|rfl|(simp;done)|(simp [*];done),by repeat (first|exact Drawn0.refl _|apply Drawn0.step)⟩
          ·
           rw [if_neg c15] at H
           have c15b0:decide (10 < ((rd_T53 l0 x3_1).f1))=false:=decide_eq_false c15
           clear c15
           have H':=zF H
           clear H
           have p109:0≤(x3_1:Int):=zE (by first|(with_reducible assumption)|assumption)
           have q109:x3_1 < (l0.length:Int):=zE (by first|(with_reducible assumption)|assumption)
           obtain ⟨ad109,e109,hx109_0,hx109_1⟩:=at_T53 HR0.out x3_1 p109 q109
           cases e109
           replace p109:=eq_true p109
           replace q109:=eq_true q109
           have p110:0≤(x3_1:Int):=zE (by first|(with_reducible assumption)|assumption)
           have q110:x3_1 < (l0.length:Int):=zE (by first|(with_reducible assumption)|assumption)
           obtain ⟨ad110,e110,hx110_0,hx110_1⟩:=at_T53 HR0.out x3_1 p110 q110
           obtain rfl:ad109=ad110:=(by injection e110)
           replace p110:=eq_true p110
           replace q110:=eq_true q110
           have p115:0≤(x3_1:Int):=zE (by first|(with_reducible assumption)|assumption)
           have q115:x3_1 < (l0.length:Int):=zE (by first|(with_reducible assumption)|assumption)
           obtain ⟨ad115,e115,hx115_0,hx115_1⟩:=at_T53 HR0.out x3_1 p115 q115
           obtain rfl:ad109=ad115:=(by injection e115)
           replace p115:=eq_true p115
           replace q115:=eq_true q115
           have p116:0≤(x3_1:Int):=zE (by first|(with_reducible assumption)|assumption)
           have q116:x3_1 < (l0.length:Int):=zE (by first|(with_reducible assumption)|assumption)
           obtain ⟨ad116,e116,hx116_0,hx116_1⟩:=at_T53 HR0.out x3_1 p116 q116
           obtain rfl:ad109=ad116:=(by injection e116)
           replace p116:=eq_true p116
           replace q116:=eq_true q116
           go_wp2
           repeat (go_quiet (fail);try go_wp2)
           go_roundg k1
           case measure=>have:=HK1.out;omega
           case rel=>exact ⟨(wrap64 (x3_1 + 1)),(by first|rfl|(simp;done)|(simp [*];done)),H',⟨by have:=HK1.out;omega⟩,by repeat (first|exact Drawn0.refl _|apply Drawn0.step)⟩
     ·
      rw [if_neg c4] at H
      exact absurd H (by simp)
    ·
     rw [if_neg c3] at H
     have c3b0:decide (x3_1 < (l0.length:Int))=false:=decide_eq_false c3
     clear c3
     obtain rfl:=Option.some.inj H
     go_wp2
     repeat (go_quiet (fail);try go_wp2)
     go_ret
     exact ⟨by first|rfl|(simp;done)|(simp [*];done),by repeat (first|exact Drawn0.refl _|apply Drawn0.step)⟩

end Go.Proofs.Ytjgnkhfgmpaljaa.P
namespace Go.Proofs.Ytjgnkhfgmpaljaa.P
open Go.RowKit Go.Proofs.YtjgnkhfgmpaljaaW.PrintWords Go.Proofs.YtjgnkhfgmpaljaaW.PrintLast Go.Proofs.YtjgnkhfgmpaljaaW.PrintMore
attribute [local go_sem] max2_int min2_int max_two min_two max_three min_three max_four min_four   -- for this text's walks alone
set_option linter.unusedVariables false
set_option linter.unusedSimpArgs false

def cohousingref24_Order.l0:Nat→List Int→Int→Int→Option (Bool)
 | 0,_,_,_=>none
 | k + 1,x0,x1,x5=>if x5 < x1 then ((cohousingref23_In.f k x0 x5).bind fun t139=>(if t139 < 0 then (some false) else (cohousingref24_Order.l0 k x0 x1 (wrap64 (x5 + 1))))) else (some true)
def cohousingref24_Order.f (k:Nat) (l0:List Int) (a1:Int):Option (Bool):=if (l0.length:Int)=a1 then (cohousingref24_Order.l0 k l0 a1 0) else (some false)
theorem cohousingref24_Order.mono_l:∀ k,(∀ y0 y1 y2,LeO (cohousingref24_Order.l0 k y0 y1 y2) (cohousingref24_Order.l0 (k + 1) y0 y1 y2))
 | 0=>fun _ _ _ r h=>by simp [cohousingref24_Order.l0] at h
 | k + 1=>by
  have ih0:=cohousingref24_Order.mono_l k
  ·
   intro y0 y1 y2
   unfold cohousingref24_Order.l0
   repeat' first
   | (with_reducible exact ih0 _ _ _)
   | (with_reducible exact cohousingref23_In.mono _ _ _)
   | (with_reducible exact LeO.refl _)
   | (with_reducible exact LeO.none _)
   | (with_reducible refine LeO.ite ?_ ?_)
   | (with_reducible refine LeO.bind ?_ (fun _=>?_))
   | exact ih0 _ _ _
   | exact cohousingref23_In.mono _ _ _
   | exact LeO.none _
   | refine LeO.ite ?_ ?_
   | refine LeO.bind ?_ (fun _=>?_)
theorem cohousingref24_Order.mono:∀ a0 a1 k,LeO (cohousingref24_Order.f k a0 a1) (cohousingref24_Order.f (k + 1) a0 a1):=by
 intro a0 a1 k
 have ih0:=cohousingref24_Order.mono_l k
 unfold cohousingref24_Order.f
 repeat' first
   | (with_reducible exact ih0 _ _ _)
   | (with_reducible exact cohousingref23_In.mono _ _ _)
   | (with_reducible exact LeO.refl _)
   | (with_reducible exact LeO.none _)
   | (with_reducible refine LeO.ite ?_ ?_)
   | (with_reducible refine LeO.bind ?_ (fun _=>?_))
   | exact ih0 _ _ _
   | exact cohousingref23_In.mono _ _ _
   | exact LeO.none _
   | refine LeO.ite ?_ ?_
   | refine LeO.bind ?_ (fun _=>?_)
set_option maxHeartbeats 8000000 in
set_option maxRecDepth 100000 in
theorem cohousingref24_Order.calls (k:Nat) (A0:Option Addr) (c0:Nat) (l0:List Int) (a1:Int) (r:Bool) (w:World) (hr0:Kd.C (Kd.int .i64) w A0 l0.length l0) (hc0:l0.length≤c0) (h:cohousingref24_Order.f k l0 a1=some r) :
  Calls Try.prog 32 #[.slice A0 l0.length c0,.int .i64 a1] w fun e w'=>e = .returned (.bool r)∧Drawn0 w w':=by
 have HR0:=zF hr0
 have HC0:=zF hc0
 clear hr0 hc0
 have H:(if (l0.length:Int)=a1 then (cohousingref24_Order.l0 k l0 a1 0) else (some false))=some r:=h
 clear h
 by_cases c3:(l0.length:Int)=a1
 ·
  rw [if_pos c3] at H
  have c3b0:((l0.length:Int) == a1)=true:=beq_iff_eq.mpr c3
  have c3b1:((l0.length:Int) != a1)=false:=bne_eq_false_iff_eq.mpr c3
  clear c3
  have H':=zF H
  clear H
  go_enter Try.func32,Try.ntmps32
  go_wp2
  go_loopg [5] k (fun kq v5 w'=>∃ (x5_1:Int),v5 = .int .i64 x5_1∧Aside0 (cohousingref24_Order.l0 kq l0 a1 x5_1=some r)∧Aside0 (kq≤k)∧Drawn0 w w')
  case atStart=>exact ⟨(0),(by first|rfl|(simp;done)|(simp [*];done)),H',⟨Nat.le_refl _⟩,by repeat (first|exact Drawn0.refl _|apply Drawn0.step)⟩
  case round =>
   clear H'
   try clear p2
   try clear c3
   try clear c3b0
   try clear c3b1
   obtain ⟨x5_1,rfl,HA,HK1,⟨m1,rfl⟩⟩:=hrel
   cases gk with
   | zero=>exact absurd HA.out (by simp [cohousingref24_Order.l0])
   | succ k1 =>
    have H:=HA.out
    clear HA
    simp only [cohousingref24_Order.l0] at H
    by_cases c4:x5_1 < a1
    ·
     rw [if_pos c4] at H
     have c4b0:decide (x5_1 < a1)=true:=decide_eq_true c4
     clear c4
     replace H:=Option.bind_eq_some_iff.mp H
     obtain ⟨t139,A50,H⟩:=H
     replace H:(if t139 < 0 then (some false) else (cohousingref24_Order.l0 k1 l0 a1 (wrap64 (x5_1 + 1))))=some r:=H
     have A5:=zF A50
     clear A50
     by_cases c6:t139 < 0
     ·
      rw [if_pos c6] at H
      have c6b0:decide (t139 < 0)=true:=decide_eq_true c6
      clear c6
      obtain rfl:=Option.some.inj H
      go_wp2_with (first|((with_reducible refine gate_callee (f:=24) rfl ?_);refine goesL_ (some 17) rfl rfl Try.func24 (by kernel_rfl) rfl #[.slice A0 l0.length c0,.int .i64 x5_1] rfl (by (try simp only [List.map_toArray,List.map_cons,List.map_nil]);first|done|rfl|(simp only [List.length_drop,List.length_take];rfl)) ?_;(with_reducible refine (cohousingref23_In.calls k1 _ _ l0 x5_1 t139 _ ?side1 ?side2 A5.out).mono ?_);(case side1=>repeat (first|exact HR0.out|(with_reducible refine Kd.C_alloc ?_ _)|(with_reducible refine Kd.C_drewN ?_ _)|(with_reducible refine Kd.C_drew ?_)));(case side2=>exact HC0.out);rintro e w' ⟨rfl,⟨nd,rfl⟩⟩;refine ⟨_,rfl,?_⟩))
      go_ret
      exact ⟨by first|rfl|(simp;done)|(simp [*];done),by repeat (first|exact Drawn0.refl _|apply Drawn0.step)⟩
     ·
      rw [if_neg c6] at H
      have c6b0:decide (t139 < 0)=false:=decide_eq_false c6
      clear c6
      have H':=zF H
      clear H
      go_wp2_with (first|((with_reducible refine gate_callee (f:=24) rfl ?_);refine goesL_ (some 17) rfl rfl Try.func24 (by kernel_rfl) rfl #[.slice A0 l0.length c0,.int .i64 x5_1] rfl (by (try simp only [List.map_toArray,List.map_cons,List.map_nil]);first|done|rfl|(simp only [List.length_drop,List.length_take];rfl)) ?_;(with_reducible refine (cohousingref23_In.calls k1 _ _ l0 x5_1 t139 _ ?side1 ?side2 A5.out).mono ?_);(case side1=>repeat (first|exact HR0.out|(with_reducible refine Kd.C_alloc ?_ _)|(with_reducible refine Kd.C_drewN ?_ _)|(with_reducible refine Kd.C_drew ?_)));(case side2=>exact HC0.out);rintro e w' ⟨rfl,⟨nd,rfl⟩⟩;refine ⟨_,rfl,?_⟩))
      go_roundg k1
      case measure=>have:=HK1.out;omega
      case rel=>exact ⟨(wrap64 (x5_1 + 1)),(by first|rfl|(simp;done)|(simp [*];done)),H',⟨by have:=HK1.out;omega⟩,by repeat (first|exact Drawn0.refl _|apply Drawn0.step)⟩
    ·
     rw [if_neg c4] at H
     have c4b0:decide (x5_1 < a1)=false:=decide_eq_false c4
     clear c4
     obtain rfl:=Option.some.inj H
     go_wp2
     go_ret
     exact ⟨by first|rfl|(simp;done)|(simp [*];done),by repeat (first|exact Drawn0.refl _|apply Drawn0.step)⟩
 ·
  rw [if_neg c3] at H
  have c3b0:((l0.length:Int) == a1)=false:=beq_eq_false_iff_ne.mpr c3
  have c3b1:((l0.length:Int) != a1)=true:=bne_iff_ne.mpr c3
  obtain rfl:=Option.some.inj H
  go_enter Try.func32,Try.ntmps32
  go_wp2
  go_ret
  exact ⟨by first|rfl|(simp;done)|(simp [*];done),by repeat (first|exact Drawn0.refl _|apply Drawn0.step)⟩

end Go.Proofs.Ytjgnkhfgmpaljaa.P
namespace Go.Proofs.Ytjgnkhfgmpaljaa.P
open Go.RowKit Go.Proofs.YtjgnkhfgmpaljaaW.PrintWords Go.Proofs.YtjgnkhfgmpaljaaW.PrintLast Go.Proofs.YtjgnkhfgmpaljaaW.PrintMore
attribute [local go_sem] max2_int min2_int max_two min_two max_three min_three max_four min_four   -- for this text's walks alone
set_option linter.unusedVariables false
set_option linter.unusedSimpArgs false

def api_Move.l0:Nat→List (S39)→Int→Int→Option ((List (S39)))
 | 0,_,_,_=>none
 | k + 1,x0,x2,x3=>if x2 < x3 then (if 0≤x3 then (if x3 < (x0.length:Int) then (if 0≤x2 then (if x2 < (x0.length:Int) then (api_Move.l0 k ((x0.set (x2:Int).toNat (⟨(rd_T39 x0 x3).f0,(rd_T39 x0 x3).f1,(rd_T39 x0 x3).f2⟩:S39)).set (x3:Int).toNat (⟨(rd_T39 x0 x2).f0,(rd_T39 x0 x2).f1,(rd_T39 x0 x2).f2⟩:S39)) (wrap64 (x2 + 1)) (wrap64 (x3 - 1))) else (none)) else (none)) else (none)) else (none)) else (some x0)
def api_Move.f (k:Nat) (l0:List (S39)):Option ((List (S39))):=api_Move.l0 k l0 0 (wrap64 ((l0.length:Int) - 1))
theorem api_Move.mono_l:∀ k,(∀ y0 y1 y2,LeO (api_Move.l0 k y0 y1 y2) (api_Move.l0 (k + 1) y0 y1 y2))
 | 0=>fun _ _ _ r h=>by simp [api_Move.l0] at h
 | k + 1=>by
  have ih0:=api_Move.mono_l k
  ·
   intro y0 y1 y2
   unfold api_Move.l0
   repeat' first
   | (with_reducible exact ih0 _ _ _)
   | (with_reducible exact LeO.refl _)
   | (with_reducible exact LeO.none _)
   | (with_reducible refine LeO.ite ?_ ?_)
   | (with_reducible refine LeO.bind ?_ (fun _=>?_))
   | exact ih0 _ _ _
   | exact LeO.none _
   | refine LeO.ite ?_ ?_
   | refine LeO.bind ?_ (fun _=>?_)
theorem api_Move.mono:∀ a0 k,LeO (api_Move.f k a0) (api_Move.f (k + 1) a0):=by
 intro a0 k
 have ih0:=api_Move.mono_l k
 unfold api_Move.f
 repeat' first
   | (with_reducible exact ih0 _ _ _)
   | (with_reducible exact LeO.refl _)
   | (with_reducible exact LeO.none _)
   | (with_reducible refine LeO.ite ?_ ?_)
   | (with_reducible refine LeO.bind ?_ (fun _=>?_))
   | exact ih0 _ _ _
   | exact LeO.none _
   | refine LeO.ite ?_ ?_
   | refine LeO.bind ?_ (fun _=>?_)
def api_Move.T3:Bool × List (List Nat × List Nat):=(true,[([],[]),([],[]),([],[]),([],[]),([],[]),([],[]),([4,5],[4,5]),([6],[6]),([],[]),([],[]),([8,9],[8,9]),([10],[10]),([0,1,0,1,4,5,6,7,11],[0,1]),([12,7,0,1,4,5,6,7,11],[7,12]),([2,3,0,1,2,3,4,5,6,7,8,9,10,11,12,13],[2,3]),([14,11,13,0,1,2,3,4,5,6,7,8,9,10,11,12,13],[11,14])])
def api_Move.B3:List Nat:=[0,0,0,0,0,0,48,112,0,0,768,1792,4083,8179,16383,32767]
theorem api_Move.tab3:rtab .any (opsOf Try.f95 3)=api_Move.T3:=by kernel_rfl
theorem api_Move.bits3:waitsOk api_Move.T3.2 api_Move.B3=true:=by kernel_rfl
set_option maxHeartbeats 8000000 in
set_option maxRecDepth 100000 in
theorem api_Move.calls (k:Nat) (P0_:Nat→Prop) (u9000_:Value) (l0:List (S39)) (r:List (S39)) (w0 w:World) (hB:Below w0.heap.size w0 w) (ho0:Kd.R k39 39 w w0.heap.size P0_ u9000_ l0) (h:api_Move.f k l0=some r) :
  Calls Try.prog 95 #[u9000_] w fun e w'=>e = .returned (.tuple #[])∧Kd.R k39 39 w' w0.heap.size (fun k_=>(P0_ k_ ∨ w.heap.size≤k_)) u9000_ r∧Below w0.heap.size w0 w'∧Kept w w' (fun k_=>P0_ k_):=by
 have hu39:=Try.underlying39
 have HO0:=zF (show Kd.R k39 39 w w0.heap.size (fun k_=>(P0_ k_ ∨ w.heap.size≤k_)) u9000_ l0 from Kd.R_mono ho0 (fun k_ hk=>(.inl hk)))
 have HK:=zF (Kept.refl w (fun k_=>P0_ k_))
 have HW0:=zF hB.size
 have HB:=zF hB
 clear hB
 have H:(api_Move.l0 k l0 0 (wrap64 ((l0.length:Int) - 1)))=some r:=h
 clear h
 have H':=zF H
 clear H
 obtain ⟨Ao2,co2,eo2⟩:=Kd.R_slice HO0.out
 subst eo2
 go_enter Try.func95,Try.ntmps95
 go_wp2
 go_loopg [2,3] k (fun kq v2 v3 w'=>∃ (x0_1:List (S39)) (x2_1:Int) (x3_1:Int),v2 = .int .i64 x2_1∧v3 = .int .i64 x3_1∧Aside0 (api_Move.l0 kq x0_1 x2_1 x3_1=some r)∧Aside0 (kq≤k)∧Aside0 (Kd.R k39 39 w' w0.heap.size (fun k_=>(P0_ k_ ∨ w.heap.size≤k_)) (.slice Ao2 l0.length co2) x0_1)∧Aside0 (Kept w w' (fun k_=>P0_ k_))∧Aside0 (Below w0.heap.size w0 w'))
 case atStart=>exact ⟨(l0),(0),(wrap64 ((l0.length:Int) - 1)),(by first|rfl|(simp;done)|(simp [*];done)),(by first|rfl|(simp;done)|(simp [*];done)),H',⟨Nat.le_refl _⟩,⟨by (with_reducible repeat (first|apply Kd.R_alloc|apply Kd.R_drewN|apply Kd.R_drew));exact HO0.out⟩,⟨by repeat (first|(with_reducible first|exact HK.out|apply Kept.alloc|apply Kept.drewN|apply Kept.drew)|exact HK.out)⟩,⟨by repeat (first|(with_reducible first|exact HB.out|apply below_alloc|apply pw_below_drewN|apply below_drew1)|exact HB.out)⟩⟩
 case round =>
  clear H'
  try clear p2
  obtain ⟨x0_1,x2_1,x3_1,rfl,rfl,HA,HK1,HO_0,HK,HB⟩:=hrel
  have hl0_1:=(Kd.R_reads' HO_0.out).1
  rw [hl0_1] at HO_0
  (try simp only [hl0_1])
  cases gk with
  | zero=>exact absurd HA.out (by simp [api_Move.l0])
  | succ k1 =>
   have H:=HA.out
   clear HA
   simp only [api_Move.l0] at H
   by_cases c3:x2_1 < x3_1
   ·
    rw [if_pos c3] at H
    have c3b0:decide (x2_1 < x3_1)=true:=decide_eq_true c3
    clear c3
    by_cases c4:0≤x3_1
    ·
     rw [if_pos c4] at H
     have c4b0:decide (0≤x3_1)=true:=decide_eq_true c4
     clear c4
     by_cases c5:x3_1 < (x0_1.length:Int)
     ·
      rw [if_pos c5] at H
      have c5b0:decide (x3_1 < (x0_1.length:Int))=true:=decide_eq_true c5
      clear c5
      by_cases c6:0≤x2_1
      ·
       rw [if_pos c6] at H
       have c6b0:decide (0≤x2_1)=true:=decide_eq_true c6
       clear c6
       by_cases c7:x2_1 < (x0_1.length:Int)
       ·
        rw [if_pos c7] at H
        have c7b0:decide (x2_1 < (x0_1.length:Int))=true:=decide_eq_true c7
        clear c7
        obtain ⟨y103,hy103⟩:∃ y_:List (S39),y_=(x0_1.set (x2_1:Int).toNat (⟨(rd_T39 x0_1 x3_1).f0,(rd_T39 x0_1 x3_1).f1,(rd_T39 x0_1 x3_1).f2⟩:S39)):=⟨_,rfl⟩
        replace H:(api_Move.l0 k1 (y103.set (x3_1:Int).toNat (⟨(rd_T39 x0_1 x2_1).f0,(rd_T39 x0_1 x2_1).f1,(rd_T39 x0_1 x2_1).f2⟩:S39)) (wrap64 (x2_1 + 1)) (wrap64 (x3_1 - 1)))=some r:=by first|(rw [hy103];with_reducible exact H)|(have H2_:=(Option.bind_some _ _).symm.trans H;rw [hy103];with_reducible exact H2_)|(have H2_:=(Option.bind_some _ _).symm.trans H;with_reducible exact H2_)|with_reducible exact H|(rw [hy103];exact H)|exact H
        have Ny103:=zF hy103
        clear hy103
        obtain ⟨y104,hy104⟩:∃ y_:List (S39),y_=(y103.set (x3_1:Int).toNat (⟨(rd_T39 x0_1 x2_1).f0,(rd_T39 x0_1 x2_1).f1,(rd_T39 x0_1 x2_1).f2⟩:S39)):=⟨_,rfl⟩
        replace H:(api_Move.l0 k1 y104 (wrap64 (x2_1 + 1)) (wrap64 (x3_1 - 1)))=some r:=by first|(rw [hy104];with_reducible exact H)|(have H2_:=(Option.bind_some _ _).symm.trans H;rw [hy104];with_reducible exact H2_)|(have H2_:=(Option.bind_some _ _).symm.trans H;with_reducible exact H2_)|with_reducible exact H|(rw [hy104];exact H)|exact H
        have Ny104:=zF hy104
        clear hy104
        have H':=zF H
        clear H
        try go_wp2
        have n0_:=zF (Kd.R_drew HO_0.out)
        have n1_:=zF (Kept.drew HK.out)
        have n2_:=zF (below_drew1 HB.out)
        clear HO_0 HK HB
        have HO_0:=n0_
        have HK:=n1_
        have HB:=n2_
        clear n0_ n1_ n2_
        have p101:0≤(x3_1:Int):=zE (by first|(with_reducible assumption)|assumption)
        have q101:x3_1 < (x0_1.length:Int):=zE (by first|(with_reducible assumption)|assumption)
        obtain ⟨ad101,e101,hx101_0,hx101_1,hx101_2⟩:=at_T39 (Kd.R_reads' HO_0.out).2.2 x3_1 p101 q101
        cases e101
        replace p101:=eq_true p101
        replace q101:=eq_true q101
        have p102:0≤(x2_1:Int):=zE (by first|(with_reducible assumption)|assumption)
        have q102:x2_1 < (x0_1.length:Int):=zE (by first|(with_reducible assumption)|assumption)
        obtain ⟨ad102,e102,hx102_0,hx102_1,hx102_2⟩:=at_T39 (Kd.R_reads' HO_0.out).2.2 x2_1 p102 q102
        obtain rfl:ad101=ad102:=(by injection e102)
        replace p102:=eq_true p102
        replace q102:=eq_true q102
        have p8:0≤(x2_1:Int):=zE (by first|(with_reducible assumption)|assumption)
        have q8:(x2_1:Int) < ((x0_1.length:Int):Int):=zE (by first|(with_reducible assumption)|assumption)
        obtain ⟨go8,co8,eo8,gb8,gl8,cl8,HG8⟩:=Kd.R_form HO_0.out (by omega)
        (first|cases eo8|(injection eo8 with ea_ en_ ec_;(first|subst ea_|(injection ea_ with ea_;subst ea_));subst ec_;clear en_))
        have GB8:=zF gb8
        have GG8:=zF HG8
        clear gb8 gl8 HG8
        have HMgo8:=zF (show (P0_ go8 ∨ w.heap.size≤go8) from (HO_0.out.1 _ rfl))
        (first|simp only [add_plain] at hx101_0|skip)
        (first|simp only [add_plain] at hx101_1|skip)
        (first|simp only [add_plain] at hx101_2|skip)
        (first|simp only [add_plain] at hx102_0|skip)
        (first|simp only [add_plain] at hx102_1|skip)
        (first|simp only [add_plain] at hx102_2|skip)
        obtain ⟨ce8,hcl8,hM8,hcc8,hfr8⟩:=Kd.R_elem HO_0.out z39 (x2_1:Int) p8 q8
        obtain rfl:=k39_openM hM8
        have hx8_0:World.cell? _ ⟨go8,(x2_1:Int).toNat * 3,none⟩=some (.int .i64 ((rd_T39 x0_1 x2_1).f0)):=hcc8 0 _ rfl
        have hx8_1:World.cell? _ ⟨go8,(x2_1:Int).toNat * 3 + 1,none⟩=some (.int .i64 ((rd_T39 x0_1 x2_1).f1)):=hcc8 1 _ rfl
        have hx8_2:World.cell? _ ⟨go8,(x2_1:Int).toNat * 3 + 2,none⟩=some (.int .i64 ((rd_T39 x0_1 x2_1).f2)):=hcc8 2 _ rfl
        have hf8_0:World.frozen? _ ⟨go8,(x2_1:Int).toNat * 3,none⟩=false:=hfr8 0
        have hf8_1:World.frozen? _ ⟨go8,(x2_1:Int).toNat * 3 + 1,none⟩=false:=hfr8 1
        have hf8_2:World.frozen? _ ⟨go8,(x2_1:Int).toNat * 3 + 2,none⟩=false:=hfr8 2
        clear hcl8 hcc8 hfr8 hM8
        replace p8:=eq_true p8
        replace q8:=eq_true q8
        obtain ⟨ce11,hcl11,hM11,hcc11,hfr11⟩:=Kd.R_elem HO_0.out z39 (x2_1:Int) (zE (by first|(with_reducible assumption)|assumption)) (by have h_:(x2_1:Int) < ((x0_1.length:Int):Int):=zE (by first|(with_reducible assumption)|assumption);first|exact h_|(have e_:=(Kd.R_reads' HO_0.out).1;omega)|simpa using h_)
        obtain rfl:=k39_openM hM11
        have HP11:=(Kd.R_seg HO_0.out (x2_1:Int) (zE (by first|(with_reducible assumption)|assumption)) (by have h_:(x2_1:Int) < ((x0_1.length:Int):Int):=zE (by first|(with_reducible assumption)|assumption);first|exact h_|(have e_:=(Kd.R_reads' HO_0.out).1;omega)|simpa using h_) (seg:=[.int .i64 ((rd_T39 x0_1 x3_1).f0),.int .i64 ((rd_T39 x0_1 x3_1).f1),.int .i64 ((rd_T39 x0_1 x3_1).f2)]) (j:=0) hcl11 hcc11 (show 3≤3 from by decide) (x':=(⟨(rd_T39 x0_1 x3_1).f0,(rd_T39 x0_1 x3_1).f1,(rd_T39 x0_1 x3_1).f2⟩:S39)) (k39_mkM _ _ _ (⟨(rd_T39 x0_1 x3_1).f0,(rd_T39 x0_1 x3_1).f1,(rd_T39 x0_1 x3_1).f2⟩:S39) ) (fun _ hk=>hk)).1
        rw [← Ny103.out] at HP11
        have HQ11:=zF HP11
        clear hcl11 hcc11 hfr11 hM11 HP11
        have p9:0≤(x3_1:Int):=zE (by first|(with_reducible assumption)|assumption)
        have q9:(x3_1:Int) < ((x0_1.length:Int):Int):=zE (by first|(with_reducible assumption)|assumption)
        obtain ⟨ce9,hcl9,hM9,hcc9,hfr9⟩:=Kd.R_elem HQ11.out z39 (x3_1:Int) p9 q9
        obtain rfl:=k39_openM hM9
        have hx9_0:World.cell? _ ⟨go8,(x3_1:Int).toNat * 3,none⟩=some (.int .i64 ((rd_T39 y103 x3_1).f0)):=hcc9 0 _ rfl
        have hx9_1:World.cell? _ ⟨go8,(x3_1:Int).toNat * 3 + 1,none⟩=some (.int .i64 ((rd_T39 y103 x3_1).f1)):=hcc9 1 _ rfl
        have hx9_2:World.cell? _ ⟨go8,(x3_1:Int).toNat * 3 + 2,none⟩=some (.int .i64 ((rd_T39 y103 x3_1).f2)):=hcc9 2 _ rfl
        have hf9_0:World.frozen? _ ⟨go8,(x3_1:Int).toNat * 3,none⟩=false:=hfr9 0
        have hf9_1:World.frozen? _ ⟨go8,(x3_1:Int).toNat * 3 + 1,none⟩=false:=hfr9 1
        have hf9_2:World.frozen? _ ⟨go8,(x3_1:Int).toNat * 3 + 2,none⟩=false:=hfr9 2
        clear hcl9 hcc9 hfr9 hM9
        replace p9:=eq_true p9
        replace q9:=eq_true q9
        obtain ⟨ce12,hcl12,hM12,hcc12,hfr12⟩:=Kd.R_elem HQ11.out z39 (x3_1:Int) (zE (by first|(with_reducible assumption)|assumption)) (by have h_:(x3_1:Int) < ((x0_1.length:Int):Int):=zE (by first|(with_reducible assumption)|assumption);first|exact h_|(have e_:=(Kd.R_reads' HO_0.out).1;omega)|simpa using h_)
        obtain rfl:=k39_openM hM12
        have HP12:=(Kd.R_seg HQ11.out (x3_1:Int) (zE (by first|(with_reducible assumption)|assumption)) (by have h_:(x3_1:Int) < ((x0_1.length:Int):Int):=zE (by first|(with_reducible assumption)|assumption);first|exact h_|(have e_:=(Kd.R_reads' HO_0.out).1;omega)|simpa using h_) (seg:=[.int .i64 ((rd_T39 x0_1 x2_1).f0),.int .i64 ((rd_T39 x0_1 x2_1).f1),.int .i64 ((rd_T39 x0_1 x2_1).f2)]) (j:=0) hcl12 hcc12 (show 3≤3 from by decide) (x':=(⟨(rd_T39 x0_1 x2_1).f0,(rd_T39 x0_1 x2_1).f1,(rd_T39 x0_1 x2_1).f2⟩:S39)) (k39_mkM _ _ _ (⟨(rd_T39 x0_1 x2_1).f0,(rd_T39 x0_1 x2_1).f1,(rd_T39 x0_1 x2_1).f2⟩:S39) ) (fun _ hk=>hk)).1
        rw [← Ny104.out] at HP12
        have HQ12:=zF HP12
        clear hcl12 hcc12 hfr12 hM12 HP12
        refine start_ (n:=16) (S:=fun w'=>w'.cell? ⟨go8,((x3_1).toNat * 3),none⟩=some (.int .i64 ((rd_T39 x0_1 x3_1).f0))∧w'.cell? ⟨go8,((x3_1).toNat * 3) + 1,none⟩=some (.int .i64 ((rd_T39 x0_1 x3_1).f1))∧w'.cell? ⟨go8,((x3_1).toNat * 3) + 2,none⟩=some (.int .i64 ((rd_T39 x0_1 x3_1).f2))∧w'.cell? ⟨go8,((x2_1).toNat * 3),none⟩=some (.int .i64 ((rd_T39 x0_1 x2_1).f0))∧w'.cell? ⟨go8,((x2_1).toNat * 3) + 1,none⟩=some (.int .i64 ((rd_T39 x0_1 x2_1).f1))∧w'.cell? ⟨go8,((x2_1).toNat * 3) + 2,none⟩=some (.int .i64 ((rd_T39 x0_1 x2_1).f2))) (ds:=[13,15]) #[false,false,false,false,false,false,false,false,false,false,false,false,false,false,false,false] (by kernel_rfl) rfl rfl ⟨hx101_0,hx101_1,hx101_2,hx102_0,hx102_1,hx102_2⟩ (fun hHeld=>?_);refine with_tabW api_Move.tab3 api_Move.bits3 (fun HT_ HW_=>?_)
        generalize wr.drew=w10 at HO_0 HK HB GG8 HQ11 HQ12 hf8_0 hf8_1 hf8_2 hf9_0 hf9_1 hf9_2 hx101_0 hx101_1 hx101_2 hx102_0 hx102_1 hx102_2 hx8_0 hx8_1 hx8_2 hx9_0 hx9_1 hx9_2 hHeld ⊢
        refine pure_ (i:=0) (N:=some 14) (v:=?_) (a':=?_) #[true,false,false,false,false,false,false,false,false,false,false,false,false,false,false,false] rfl rfl (any_of HT_.out (by kernel_rfl)) (fun _ _ _ h=>h) (Or.inl ⟨by rfl,?_⟩) ?_ ?_
        rotate_left
        ·
         intro w'
         go_simp
         with_reducible rfl
        rotate_left
        ·
         simp only [Act.put,zA,zB,zC,i64_w,i32_w]
         rfl
        refine pure_ (i:=1) (N:=some 15) (v:=?_) (a':=?_) #[true,true,false,false,false,false,false,false,false,false,false,false,false,false,false,false] rfl rfl (any_of HT_.out (by kernel_rfl)) (fun _ _ _ h=>h) (Or.inl ⟨by rfl,?_⟩) ?_ ?_
        rotate_left
        ·
         intro w'
         go_simp
         with_reducible rfl
        rotate_left
        ·
         simp only [Act.put,zA,zB,zC,i64_w,i32_w]
         rfl
        refine pure_ (i:=2) (N:=some 16) (v:=?_) (a':=?_) #[true,true,true,false,false,false,false,false,false,false,false,false,false,false,false,false] rfl rfl (any_of HT_.out (by kernel_rfl)) (fun _ _ _ h=>h) (Or.inl ⟨by rfl,?_⟩) ?_ ?_
        rotate_left
        ·
         intro w'
         go_simp
         with_reducible rfl
        rotate_left
        ·
         simp only [Act.put,zA,zB,zC,i64_w,i32_w]
         rfl
        refine pure_ (i:=3) (N:=some 17) (v:=?_) (a':=?_) #[true,true,true,true,false,false,false,false,false,false,false,false,false,false,false,false] rfl rfl (any_of HT_.out (by kernel_rfl)) (fun _ _ _ h=>h) (Or.inl ⟨by rfl,?_⟩) ?_ ?_
        rotate_left
        ·
         intro w'
         go_simp
         with_reducible rfl
        rotate_left
        ·
         simp only [Act.put,zA,zB,zC,i64_w,i32_w]
         rfl
        refine pure_ (i:=4) (N:=some 18) (v:=?_) (a':=?_) #[true,true,true,true,true,false,false,false,false,false,false,false,false,false,false,false] rfl rfl (any_of HT_.out (by kernel_rfl)) (fun _ _ _ h=>h) (Or.inl ⟨by rfl,?_⟩) ?_ ?_
        rotate_left
        ·
         intro w'
         go_simp
         with_reducible rfl
        rotate_left
        ·
         simp only [Act.put,zA,zB,zC,i64_w,i32_w]
         rfl
        refine pure_ (i:=5) (N:=some 19) (v:=?_) (a':=?_) #[true,true,true,true,true,true,false,false,false,false,false,false,false,false,false,false] rfl rfl (any_of HT_.out (by kernel_rfl)) (fun _ _ _ h=>h) (Or.inl ⟨by rfl,?_⟩) ?_ ?_
        rotate_left
        ·
         intro w'
         go_simp
         with_reducible rfl
        rotate_left
        ·
         simp only [Act.put,zA,zB,zC,i64_w,i32_w]
         rfl
        refine pure_ (i:=6) (N:=some 20) (v:=?_) (a':=?_) #[true,true,true,true,true,true,true,false,false,false,false,false,false,false,false,false] rfl rfl (any_of HT_.out (by kernel_rfl)) (fun _ _ _ h=>h) (Or.inl ⟨by rfl,?_⟩) ?_ ?_
        rotate_left
        ·
         intro w'
         go_simp
         with_reducible rfl
        rotate_left
        ·
         simp only [Act.put,zA,zB,zC,i64_w,i32_w]
         rfl
        refine pure_ (i:=8) (N:=some 22) (v:=?_) (a':=?_) #[true,true,true,true,true,true,true,false,true,false,false,false,false,false,false,false] rfl rfl (any_of HT_.out (by kernel_rfl)) (fun _ _ _ h=>h) (Or.inl ⟨by rfl,?_⟩) ?_ ?_
        rotate_left
        ·
         intro w'
         go_simp
         with_reducible rfl
        rotate_left
        ·
         simp only [Act.put,zA,zB,zC,i64_w,i32_w]
         rfl
        refine pure_ (i:=9) (N:=some 23) (v:=?_) (a':=?_) #[true,true,true,true,true,true,true,false,true,true,false,false,false,false,false,false] rfl rfl (any_of HT_.out (by kernel_rfl)) (fun _ _ _ h=>h) (Or.inl ⟨by rfl,?_⟩) ?_ ?_
        rotate_left
        ·
         intro w'
         go_simp
         with_reducible rfl
        rotate_left
        ·
         simp only [Act.put,zA,zB,zC,i64_w,i32_w]
         rfl
        refine pure_ (i:=10) (N:=some 24) (v:=?_) (a':=?_) #[true,true,true,true,true,true,true,false,true,true,true,false,false,false,false,false] rfl rfl (any_of HT_.out (by kernel_rfl)) (fun _ _ _ h=>h) (Or.inl ⟨by rfl,?_⟩) ?_ ?_
        rotate_left
        ·
         intro w'
         go_simp
         with_reducible rfl
        rotate_left
        ·
         simp only [Act.put,zA,zB,zC,i64_w,i32_w]
         rfl
        refine take_ (i:=7) (N:=some 21) (v:=?_) (a':=?_) #[true,true,true,true,true,true,true,true,true,true,true,false,false,false,false,false] rfl rfl (take_ofW HT_.out HW_.out (by kernel_rfl)) (fun _ _ _ h=>h) (Or.inl ⟨by rfl,?_⟩) hHeld ?_ ?_
        rotate_left
        ·
         rintro w' ⟨s0,s1,s2,s3,s4,s5⟩
         go_simp
         with_reducible rfl
        rotate_left
        ·
         simp only [Act.put,zA,zB,zC,i64_w,i32_w]
         rfl
        refine take_ (i:=11) (N:=some 25) (v:=?_) (a':=?_) #[true,true,true,true,true,true,true,true,true,true,true,true,false,false,false,false] rfl rfl (take_ofW HT_.out HW_.out (by kernel_rfl)) (fun _ _ _ h=>h) (Or.inl ⟨by rfl,?_⟩) hHeld ?_ ?_
        rotate_left
        ·
         rintro w' ⟨s0,s1,s2,s3,s4,s5⟩
         go_simp
         with_reducible rfl
        rotate_left
        ·
         simp only [Act.put,zA,zB,zC,i64_w,i32_w]
         rfl
        refine pure_ (i:=12) (N:=some 26) (v:=?_) (a':=?_) #[true,true,true,true,true,true,true,true,true,true,true,true,true,false,false,false] rfl rfl (any_of HT_.out (by kernel_rfl)) (fun _ _ _ h=>h) (Or.inl ⟨by rfl,?_⟩) ?_ ?_
        rotate_left
        ·
         intro w'
         go_simp
         with_reducible rfl
        rotate_left
        ·
         simp only [Act.put,zA,zB,zC,i64_w,i32_w]
         rfl
        refine last_ (i:=13) (N:=none) #[true,true,true,true,true,true,true,true,true,true,true,true,true,true,false,false] rfl rfl (one_of HT_.out (by kernel_rfl)) (by decide) (fun K hK=>?_)
        refine skip_ (w1:=?_) (by rfl) rfl ?_ ?_
        rotate_left
        ·
         go_simp
         rfl
        refine hK.out _ _ ?_
        clear hK K
        refine pure_ (i:=14) (N:=some 27) (v:=?_) (a':=?_) #[true,true,true,true,true,true,true,true,true,true,true,true,true,true,true,false] rfl rfl (any_of HT_.out (by kernel_rfl)) (fun _ _ _ h=>h) (Or.inl ⟨by rfl,?_⟩) ?_ ?_
        rotate_left
        ·
         intro w'
         go_simp
         with_reducible rfl
        rotate_left
        ·
         simp only [Act.put,zA,zB,zC,i64_w,i32_w]
         rfl
        have ql_:x2_1 < x3_1:=zE c3b0
        have qz_:0≤x2_1:=zE c6b0
        have q0:∀ (W:World) (v:Value),(W.setCell ⟨go8,x2_1.toNat * 3,none⟩ v).cell? ⟨go8,x3_1.toNat * 3,none⟩=W.cell? ⟨go8,x3_1.toNat * 3,none⟩:=fun W v=>World.cell?_setCell_other W _ _ v (by intro e;injection e with e1 e2;omega)
        have q1:∀ (W:World) (v:Value),(W.setCell ⟨go8,x2_1.toNat * 3 + 1,none⟩ v).cell? ⟨go8,x3_1.toNat * 3 + 1,none⟩=W.cell? ⟨go8,x3_1.toNat * 3 + 1,none⟩:=fun W v=>World.cell?_setCell_other W _ _ v (by intro e;injection e with e1 e2;omega)
        have q2:∀ (W:World) (v:Value),(W.setCell ⟨go8,x2_1.toNat * 3 + 2,none⟩ v).cell? ⟨go8,x3_1.toNat * 3 + 2,none⟩=W.cell? ⟨go8,x3_1.toNat * 3 + 2,none⟩:=fun W v=>World.cell?_setCell_other W _ _ v (by intro e;injection e with e1 e2;omega)
        have r0:w10.frozen? ⟨go8,x3_1.toNat * 3,none⟩=false:=(World.frozen?_setCells go8 _ _ w10 _).symm.trans hf9_0
        have r1:w10.frozen? ⟨go8,x3_1.toNat * 3 + 1,none⟩=false:=(World.frozen?_setCells go8 _ _ w10 _).symm.trans hf9_1
        have r2:w10.frozen? ⟨go8,x3_1.toNat * 3 + 2,none⟩=false:=(World.frozen?_setCells go8 _ _ w10 _).symm.trans hf9_2
        refine last_ (i:=15) (N:=none) #[true,true,true,true,true,true,true,true,true,true,true,true,true,true,true,true] rfl rfl (one_of HT_.out (by kernel_rfl)) (by decide) (fun K hK=>?_)
        refine skip_ (w1:=?_) (by rfl) rfl ?_ ?_
        rotate_left
        ·
         go_simp
         rfl
        refine hK.out _ _ ?_
        clear hK K
        refine done_ (done_of HT_.out (by kernel_rfl)) ?_
        try go_wp2
        (try simp only [← hl0_1])
        go_roundg k1
        case measure=>have:=HK1.out;omega
        case rel=>exact ⟨(y104),(wrap64 (x2_1 + 1)),(wrap64 (x3_1 - 1)),(by first|rfl|(simp;done)|(simp [*];done)),(by first|rfl|(simp;done)|(simp [*];done)),H',⟨by have:=HK1.out;omega⟩,⟨by (try simp only [hl0_1]);(with_reducible repeat (first|apply Kd.R_alloc|apply Kd.R_drewN|apply Kd.R_drew));exact HQ12.out⟩,⟨by repeat (first|(with_reducible first|exact HK.out|apply Kept.alloc|apply Kept.drewN|apply Kept.drew|refine Kept.setCell ?_ HMgo8.out _|refine Kept.setCell ?_ HMgo8.out _|refine Kept.setCell ?_ HMgo8.out _|refine Kept.setCell ?_ HMgo8.out _|refine Kept.setCell ?_ HMgo8.out _|refine Kept.setCell ?_ HMgo8.out _)|exact HK.out)⟩,⟨by repeat (first|(with_reducible first|exact HB.out|apply below_alloc|apply pw_below_drewN|apply below_drew1|refine below_set ?_ GB8.out|refine below_set ?_ GB8.out|refine below_set ?_ GB8.out|refine below_set ?_ GB8.out|refine below_set ?_ GB8.out|refine below_set ?_ GB8.out)|exact HB.out)⟩⟩
       ·
        rw [if_neg c7] at H
        exact absurd H (by simp)
      ·
       rw [if_neg c6] at H
       exact absurd H (by simp)
     ·
      rw [if_neg c5] at H
      exact absurd H (by simp)
    ·
     rw [if_neg c4] at H
     exact absurd H (by simp)
   ·
    rw [if_neg c3] at H
    have c3b0:decide (x2_1 < x3_1)=false:=decide_eq_false c3
    clear c3
    obtain rfl:=Option.some.inj H
    go_wp2
    first|go_end0|((try simp only [Exit.inBlock,Exit.then]);refine bodyPost_ret (results_none rfl _ _ _) rfl ?_)
    exact ⟨by first|rfl|(simp [errW_none,errW_some] <;> rfl)|(simp [*,errW_none,errW_some] <;> rfl),(by first|exact (by (with_reducible repeat (first|apply Kd.R_alloc|apply Kd.R_drewN|apply Kd.R_drew));exact HO_0.out)|(simp only [hl0_1];exact (by (with_reducible repeat (first|apply Kd.R_alloc|apply Kd.R_drewN|apply Kd.R_drew));exact HO_0.out))),by repeat (first|(with_reducible first|exact HB.out|apply below_alloc|apply pw_below_drewN|apply below_drew1)|exact HB.out),by repeat (first|(with_reducible first|exact HK.out|apply Kept.alloc|apply Kept.drewN|apply Kept.drew)|exact HK.out)⟩

end Go.Proofs.Ytjgnkhfgmpaljaa.P
namespace Go.Proofs.Ytjgnkhfgmpaljaa.P
open Go.RowKit Go.Proofs.YtjgnkhfgmpaljaaW.PrintWords Go.Proofs.YtjgnkhfgmpaljaaW.PrintLast Go.Proofs.YtjgnkhfgmpaljaaW.PrintMore
attribute [local go_sem] max2_int min2_int max_two min_two max_three min_three max_four min_four   -- for this text's walks alone
set_option linter.unusedVariables false
set_option linter.unusedSimpArgs false

def cohousinglaw24_occupied.l0:Nat→Int→List (S41)→Int→Int→Option (Bool)
 | 0,_,_,_,_=>none
 | k + 1,x1,x8,x9,x10=>if x10 < x9 then (if 0≤x10 then (if x10 < (x8.length:Int) then (if ((rd_T41 x8 x10).f1)=x1 then (some true) else (cohousinglaw24_occupied.l0 k x1 x8 x9 (wrap64 (x10 + 1)))) else (none)) else (none)) else (some false)
def cohousinglaw24_occupied.f (k:Nat) (l0_0:List (S53)) (l0_1:List (S41)) (a1:Int):Option (Bool):=cohousinglaw24_occupied.l0 k a1 l0_1 (l0_1.length:Int) 0
theorem cohousinglaw24_occupied.mono_l:∀ k,(∀ y0 y1 y2 y3,LeO (cohousinglaw24_occupied.l0 k y0 y1 y2 y3) (cohousinglaw24_occupied.l0 (k + 1) y0 y1 y2 y3))
 | 0=>fun _ _ _ _ r h=>by simp [cohousinglaw24_occupied.l0] at h
 | k + 1=>by
  have ih0:=cohousinglaw24_occupied.mono_l k
  ·
   intro y0 y1 y2 y3
   unfold cohousinglaw24_occupied.l0
   repeat' first
   | (with_reducible exact ih0 _ _ _ _)
   | (with_reducible exact LeO.refl _)
   | (with_reducible exact LeO.none _)
   | (with_reducible refine LeO.ite ?_ ?_)
   | (with_reducible refine LeO.bind ?_ (fun _=>?_))
   | exact ih0 _ _ _ _
   | exact LeO.none _
   | refine LeO.ite ?_ ?_
   | refine LeO.bind ?_ (fun _=>?_)
theorem cohousinglaw24_occupied.mono:∀ a0 a1 a2 k,LeO (cohousinglaw24_occupied.f k a0 a1 a2) (cohousinglaw24_occupied.f (k + 1) a0 a1 a2):=by
 intro a0 a1 a2 k
 have ih0:=cohousinglaw24_occupied.mono_l k
 unfold cohousinglaw24_occupied.f
 repeat' first
   | (with_reducible exact ih0 _ _ _ _)
   | (with_reducible exact LeO.refl _)
   | (with_reducible exact LeO.none _)
   | (with_reducible refine LeO.ite ?_ ?_)
   | (with_reducible refine LeO.bind ?_ (fun _=>?_))
   | exact ih0 _ _ _ _
   | exact LeO.none _
   | refine LeO.ite ?_ ?_
   | refine LeO.bind ?_ (fun _=>?_)
end Go.Proofs.Ytjgnkhfgmpaljaa.P
namespace Go.Proofs.Ytjgnkhfgmpaljaa.P
open Go.RowKit Go.Proofs.YtjgnkhfgmpaljaaW.PrintWords Go.Proofs.YtjgnkhfgmpaljaaW.PrintLast Go.Proofs.YtjgnkhfgmpaljaaW.PrintMore
attribute [local go_sem] max2_int min2_int max_two min_two max_three min_three max_four min_four   -- for this text's walks alone
set_option linter.unusedVariables false
set_option linter.unusedSimpArgs false

def cohousingref23_Ranking.l0:Nat→List Int→Int→Int→Int→List Int→Option (List Int)
 | 0,_,_,_,_,_=>none
 | k + 1,x3,x4,x129000,x129001,x129002=>if x4 < (x129002.length:Int) then (if 0≤x4 then (if x3.length < 17592186044416 then ((some (x3 ++ [rd x129002 x4]:List Int)).bind fun y130=>(if (rd x129002 x4)=x129001 then (some y130) else (cohousingref23_Ranking.l0 k y130 (wrap64 (x4 + 1)) x129000 x129001 x129002))) else (none)) else (none)) else (if x3.length < 17592186044416 then (some (x3 ++ [x129001])) else (none))
def cohousingref23_Ranking.f (k:Nat) (a0_0:Int) (a0_1:Int) (l0_2:List Int):Option (List Int):=cohousingref23_Ranking.l0 k ([]:List Int) 0 a0_0 a0_1 l0_2
theorem cohousingref23_Ranking.mono_l:∀ k,(∀ y0 y1 y2 y3 y4,LeO (cohousingref23_Ranking.l0 k y0 y1 y2 y3 y4) (cohousingref23_Ranking.l0 (k + 1) y0 y1 y2 y3 y4))
 | 0=>fun _ _ _ _ _ r h=>by simp [cohousingref23_Ranking.l0] at h
 | k + 1=>by
  have ih0:=cohousingref23_Ranking.mono_l k
  ·
   intro y0 y1 y2 y3 y4
   unfold cohousingref23_Ranking.l0
   repeat' first
   | (with_reducible exact ih0 _ _ _ _ _)
   | (with_reducible exact LeO.refl _)
   | (with_reducible exact LeO.none _)
   | (with_reducible refine LeO.ite ?_ ?_)
   | (with_reducible refine LeO.bind ?_ (fun _=>?_))
   | exact ih0 _ _ _ _ _
   | exact LeO.none _
   | refine LeO.ite ?_ ?_
   | refine LeO.bind ?_ (fun _=>?_)
theorem cohousingref23_Ranking.mono:∀ a0 a1 a2 k,LeO (cohousingref23_Ranking.f k a0 a1 a2) (cohousingref23_Ranking.f (k + 1) a0 a1 a2):=by
 intro a0 a1 a2 k
 have ih0:=cohousingref23_Ranking.mono_l k
 unfold cohousingref23_Ranking.f
 repeat' first
   | (with_reducible exact ih0 _ _ _ _ _)
   | (with_reducible exact LeO.refl _)
   | (with_reducible exact LeO.none _)
   | (with_reducible refine LeO.ite ?_ ?_)
   | (with_reducible refine LeO.bind ?_ (fun _=>?_))
   | exact ih0 _ _ _ _ _
   | exact LeO.none _
   | refine LeO.ite ?_ ?_
   | refine LeO.bind ?_ (fun _=>?_)
set_option maxHeartbeats 8000000 in
set_option maxRecDepth 100000 in
theorem cohousingref23_Ranking.calls (k:Nat) (a0_0:Int) (a0_1:Int) (A0_2:Option Addr) (c0_2:Nat) (l0_2:List Int) (r:List Int) (w:World) (hr0_2:Kd.C (Kd.int .i64) w A0_2 l0_2.length l0_2) (hc0_2:l0_2.length≤c0_2) (h:cohousingref23_Ranking.f k a0_0 a0_1 l0_2=some r) :
  Calls Try.prog 23 #[.agg #[.int .i64 a0_0,.int .i64 a0_1,.slice A0_2 l0_2.length c0_2]] w fun e w'=>∃ v0_:Value,e = .returned (v0_)∧Kd.R (Kd.int .i64) 3 w' w.heap.size (fun _=>True) v0_ r∧Below w.heap.size w w':=by
 have hu41:=Try.underlying41
 have HR0_2:=zF hr0_2
 have HC0_2:=zF hc0_2
 clear hr0_2 hc0_2
 have HB:=zF (Below.refl w.heap.size w)
 have H:(cohousingref23_Ranking.l0 k ([]:List Int) 0 a0_0 a0_1 l0_2)=some r:=h
 clear h
 have H':=zF H
 clear H
 go_enter Try.func23,Try.ntmps23
 go_wp2_with (first|((with_reducible refine gate_dst (N:=1) rfl ?_);refine box_event ?hg (N:=1) ?hd (cs:=#[.int .i64 a0_0,.int .i64 a0_1,.slice A0_2 l0_2.length c0_2]) (t:=41) ?hr ?_;(case hd=>rfl);(case hg=>rfl);(case hr=>first|(go_simp;done)|(go_simp;rfl));intro gb128 hg w2 hbox hb;have n0_:=zF (below_step (by repeat (first|(with_reducible first|exact HB.out|apply below_alloc|apply pw_below_drewN|apply below_drew1)|exact HB.out)) hb);have n1_:=zF (hbox);have n2_:=zF ((by rw [hg];exact (below_size (by repeat (first|(with_reducible first|exact HB.out|apply below_alloc|apply pw_below_drewN|apply below_drew1)|exact HB.out))):w.heap.size≤gb128));have n3_:=zF ((by rw [hg];exact (below_size (by repeat (first|(with_reducible first|exact HB.out|apply below_alloc|apply pw_below_drewN|apply below_drew1)|exact HB.out))):w.heap.size≤gb128));clear HB;have HB:=n0_;have BK128:=n1_;have GW128:=n2_;have GE128:=n3_;clear n0_ n1_ n2_ n3_;clear hb hbox hg))
 repeat (go_quiet (first|((with_reducible refine gate_dst (N:=1) rfl ?_);refine box_event ?hg (N:=1) ?hd (cs:=#[.int .i64 a0_0,.int .i64 a0_1,.slice A0_2 l0_2.length c0_2]) (t:=41) ?hr ?_;(case hd=>rfl);(case hg=>rfl);(case hr=>first|(go_simp;done)|(go_simp;rfl));intro gb128 hg w2 hbox hb;have n0_:=zF (below_step (by repeat (first|(with_reducible first|exact HB.out|apply below_alloc|apply pw_below_drewN|apply below_drew1)|exact HB.out)) hb);have n1_:=zF (hbox);have n2_:=zF ((by rw [hg];exact (below_size (by repeat (first|(with_reducible first|exact HB.out|apply below_alloc|apply pw_below_drewN|apply below_drew1)|exact HB.out))):w.heap.size≤gb128));have n3_:=zF ((by rw [hg];exact (below_size (by repeat (first|(with_reducible first|exact HB.out|apply below_alloc|apply pw_below_drewN|apply below_drew1)|exact HB.out))):w.heap.size≤gb128));clear HB;have HB:=n0_;have BK128:=n1_;have GW128:=n2_;have GE128:=n3_;clear n0_ n1_ n2_ n3_;clear hb hbox hg));try go_wp2_with (first|((with_reducible refine gate_dst (N:=1) rfl ?_);refine box_event ?hg (N:=1) ?hd (cs:=#[.int .i64 a0_0,.int .i64 a0_1,.slice A0_2 l0_2.length c0_2]) (t:=41) ?hr ?_;(case hd=>rfl);(case hg=>rfl);(case hr=>first|(go_simp;done)|(go_simp;rfl));intro gb128 hg w2 hbox hb;have n0_:=zF (below_step (by repeat (first|(with_reducible first|exact HB.out|apply below_alloc|apply pw_below_drewN|apply below_drew1)|exact HB.out)) hb);have n1_:=zF (hbox);have n2_:=zF ((by rw [hg];exact (below_size (by repeat (first|(with_reducible first|exact HB.out|apply below_alloc|apply pw_below_drewN|apply below_drew1)|exact HB.out))):w.heap.size≤gb128));have n3_:=zF ((by rw [hg];exact (below_size (by repeat (first|(with_reducible first|exact HB.out|apply below_alloc|apply pw_below_drewN|apply below_drew1)|exact HB.out))):w.heap.size≤gb128));clear HB;have HB:=n0_;have BK128:=n1_;have GW128:=n2_;have GE128:=n3_;clear n0_ n1_ n2_ n3_;clear hb hbox hg)))
 go_loopg [3,4] k (fun kq v3 v4 w'=>∃ (x3_1:List Int) (x4_1:Int),v4 = .int .i64 x4_1∧Aside0 (cohousingref23_Ranking.l0 kq x3_1 x4_1 a0_0 a0_1 l0_2=some r)∧Aside0 (kq≤k)∧Aside0 (Kd.R (Kd.int .i64) 3 w' w.heap.size (fun _=>True) v3 x3_1)∧Aside0 (w'.heap[gb128]? = some (.cells #[.int .i64 a0_0,.int .i64 a0_1,(.slice A0_2 l0_2.length c0_2)] 41 (0,0)))∧Aside0 (Below w.heap.size w w'))
 case atStart=>exact ⟨(([]:List Int)),(0),(by first|rfl|(simp;done)|(simp [*];done)),H',⟨Nat.le_refl _⟩,⟨by first|exact Kd.R_nil _ _ _ _ _|exact Kd.N_nil _ _ _ _ _|exact Kd.V_nil _ _ _ _ _|exact Kd.Q_nil _ _ _ _ _|exact Kd.S_nil _ _ _ _ _⟩,⟨by (with_reducible repeat (first|refine blk_drewN ?_ _|refine blk_drew ?_|refine blk_alloc ?_ _));exact BK128.out⟩,⟨by repeat (first|(with_reducible first|exact HB.out|apply below_alloc|apply pw_below_drewN|apply below_drew1|refine below_set ?_ GE128.out)|exact HB.out)⟩⟩
 case round =>
  clear H'
  try clear c2
  try clear p2
  obtain ⟨x3_1,x4_1,rfl,HA,HK1,HO_3,BK128,HB⟩:=hrel
  cases gk with
  | zero=>exact absurd HA.out (by simp [cohousingref23_Ranking.l0])
  | succ k1 =>
   have H:=HA.out
   clear HA
   simp only [cohousingref23_Ranking.l0] at H
   by_cases c3:x4_1 < (l0_2.length:Int)
   ·
    rw [if_pos c3] at H
    have c3b0:decide (x4_1 < (l0_2.length:Int))=true:=decide_eq_true c3
    clear c3
    by_cases c4:0≤x4_1
    ·
     rw [if_pos c4] at H
     have c4b0:decide (0≤x4_1)=true:=decide_eq_true c4
     clear c4
     by_cases c5:x3_1.length < 17592186044416
     ·
      rw [if_pos c5] at H
      have LMc5:=zF c5
      clear c5
      obtain ⟨y130,hy130⟩:∃ y_:List Int,y_=(x3_1 ++ [rd l0_2 x4_1]):=⟨_,rfl⟩
      replace H:(if (rd l0_2 x4_1)=a0_1 then (some y130) else (cohousingref23_Ranking.l0 k1 y130 (wrap64 (x4_1 + 1)) a0_0 a0_1 l0_2))=some r:=by first|(rw [hy130];with_reducible exact H)|(have H2_:=(Option.bind_some _ _).symm.trans H;rw [hy130];with_reducible exact H2_)|(have H2_:=(Option.bind_some _ _).symm.trans H;with_reducible exact H2_)|with_reducible exact H|(rw [hy130];exact H)|exact H
      have Ny130:=zF hy130
      clear hy130
      by_cases c6:(rd l0_2 x4_1)=a0_1
      ·
       rw [if_pos c6] at H
       have c6b0:((rd l0_2 x4_1) == a0_1)=true:=beq_iff_eq.mpr c6
       have c6b1:((rd l0_2 x4_1) != a0_1)=false:=bne_eq_false_iff_eq.mpr c6
       clear c6
       obtain rfl:=Option.some.inj H
       have hcz7_0:wr.cell? ⟨gb128,0,none⟩=some (.int .i64 a0_0):=(blk_cell BK128.out 0).trans rfl
       have hcz7_1:wr.cell? ⟨gb128,1,none⟩=some (.int .i64 a0_1):=(blk_cell BK128.out 1).trans rfl
       have hcz7_2:wr.cell? ⟨gb128,2,none⟩=some (.slice A0_2 l0_2.length c0_2):=(blk_cell BK128.out 2).trans rfl
       have hfz7_0:=blk_frozen BK128.out 0
       have hfz7_1:=blk_frozen BK128.out 1
       have hfz7_2:=blk_frozen BK128.out 2
       have p129:0≤(x4_1:Int):=zE (by first|(with_reducible assumption)|assumption)
       have q129:x4_1 < (l0_2.length:Int):=zE (by first|(with_reducible assumption)|assumption)
       obtain ⟨ad129,e129,hx129_0⟩:=Kd.at_int HR0_2.out x4_1 p129 q129
       cases e129
       replace hx129_0:=(HB.out.cell (World.block_lt_of_cell? w _ hx129_0)).trans hx129_0
       replace p129:=eq_true p129
       replace q129:=eq_true q129
       go_wp2_with (first|((with_reducible refine gate_builtin (b:=.append) (xs:=#[.tmp 12,.tmp 18]) rfl ?_);at_builtin;refine Kd.R_append (Kd.int .i64) (w0:=w) w.heap.size rfl (.tmp 12) (.tmp 18) 26 3 (.int .i64 0) 8 rfl Try.underlying26 info3 rfl (by decide) (by omega) u3 x3_1 (rd l0_2 x4_1) [.int .i64 (rd l0_2 x4_1)] (fun _=>True) (fun _=>False) rfl rfl ?aP (fun _ hk=>hk.elim) ?aF ?aO ?aB ?aS ?aL ?_;(case aP=>exact rfl);(case aB=>exact (by repeat (first|(with_reducible first|exact HB.out|apply below_alloc|apply pw_below_drewN|apply below_drew1|refine below_set ?_ GE128.out)|exact HB.out)));(case aF=>exact (fun _ _=>trivial));(case aO=>exact (by (with_reducible repeat (first|apply Kd.R_alloc|apply Kd.R_drewN|apply Kd.R_drew));exact HO_3.out));(case aS=>exact (below_size (by repeat (first|(with_reducible first|exact HB.out|apply below_alloc|apply pw_below_drewN|apply below_drew1|refine below_set ?_ GE128.out)|exact HB.out))));(case aL=>have:=LMc5.out;omega);intro v131 w8 ho hb hg hat;rw [← Ny130.out] at ho;have n0_:=zF (blk_grown (g:=gb128) (o:=.cells #[.int .i64 a0_0,.int .i64 a0_1,.slice (some ad129) l0_2.length c0_2] 41 (0,0)) (by (with_reducible repeat (first|refine blk_drewN ?_ _|refine blk_drew ?_|refine blk_alloc ?_ _));exact BK128.out) hg (Kd.R_ne HO_3.out BK128.out (by decide)));have n1_:=zF (hb);have n2_:=zF (ho);clear BK128;clear HB;clear HO_3;have BK128:=n0_;have HB:=n1_;have HO132:=n2_;clear n0_ n1_ n2_;clear ho hb hg hat;have hcz9_0:w8.cell? ⟨gb128,0,none⟩=some (.int .i64 a0_0):=(blk_cell BK128.out 0).trans rfl;have hcz9_1:w8.cell? ⟨gb128,1,none⟩=some (.int .i64 a0_1):=(blk_cell BK128.out 1).trans rfl;have hcz9_2:w8.cell? ⟨gb128,2,none⟩=some (.slice (some ad129) l0_2.length c0_2):=(blk_cell BK128.out 2).trans rfl;have hfz9_0:=blk_frozen BK128.out 0;have hfz9_1:=blk_frozen BK128.out 1;have hfz9_2:=blk_frozen BK128.out 2;have p133:0≤(x4_1:Int):=zE (by first|(with_reducible assumption)|assumption);have q133:x4_1 < (l0_2.length:Int):=zE (by first|(with_reducible assumption)|assumption);obtain ⟨ad133,e133,hx133_0⟩:=Kd.at_int HR0_2.out x4_1 p133 q133;obtain rfl:ad129=ad133:=(by injection e133);replace hx133_0:=(HB.out.cell (World.block_lt_of_cell? w _ hx133_0)).trans hx133_0;replace p133:=eq_true p133;replace q133:=eq_true q133))
       repeat (go_quiet (first|((with_reducible refine gate_builtin (b:=.append) (xs:=#[.tmp 12,.tmp 18]) rfl ?_);at_builtin;refine Kd.R_append (Kd.int .i64) (w0:=w) w.heap.size rfl (.tmp 12) (.tmp 18) 26 3 (.int .i64 0) 8 rfl Try.underlying26 info3 rfl (by decide) (by omega) u3 x3_1 (rd l0_2 x4_1) [.int .i64 (rd l0_2 x4_1)] (fun _=>True) (fun _=>False) rfl rfl ?aP (fun _ hk=>hk.elim) ?aF ?aO ?aB ?aS ?aL ?_;(case aP=>exact rfl);(case aB=>exact (by repeat (first|(with_reducible first|exact HB.out|apply below_alloc|apply pw_below_drewN|apply below_drew1|refine below_set ?_ GE128.out)|exact HB.out)));(case aF=>exact (fun _ _=>trivial));(case aO=>exact (by (with_reducible repeat (first|apply Kd.R_alloc|apply Kd.R_drewN|apply Kd.R_drew));exact HO_3.out));(case aS=>exact (below_size (by repeat (first|(with_reducible first|exact HB.out|apply below_alloc|apply pw_below_drewN|apply below_drew1|refine below_set ?_ GE128.out)|exact HB.out))));(case aL=>have:=LMc5.out;omega);intro v131 w8 ho hb hg hat;rw [← Ny130.out] at ho;have n0_:=zF (blk_grown (g:=gb128) (o:=.cells #[.int .i64 a0_0,.int .i64 a0_1,.slice (some ad129) l0_2.length c0_2] 41 (0,0)) (by (with_reducible repeat (first|refine blk_drewN ?_ _|refine blk_drew ?_|refine blk_alloc ?_ _));exact BK128.out) hg (Kd.R_ne HO_3.out BK128.out (by decide)));have n1_:=zF (hb);have n2_:=zF (ho);clear BK128;clear HB;clear HO_3;have BK128:=n0_;have HB:=n1_;have HO132:=n2_;clear n0_ n1_ n2_;clear ho hb hg hat;have hcz9_0:w8.cell? ⟨gb128,0,none⟩=some (.int .i64 a0_0):=(blk_cell BK128.out 0).trans rfl;have hcz9_1:w8.cell? ⟨gb128,1,none⟩=some (.int .i64 a0_1):=(blk_cell BK128.out 1).trans rfl;have hcz9_2:w8.cell? ⟨gb128,2,none⟩=some (.slice (some ad129) l0_2.length c0_2):=(blk_cell BK128.out 2).trans rfl;have hfz9_0:=blk_frozen BK128.out 0;have hfz9_1:=blk_frozen BK128.out 1;have hfz9_2:=blk_frozen BK128.out 2;have p133:0≤(x4_1:Int):=zE (by first|(with_reducible assumption)|assumption);have q133:x4_1 < (l0_2.length:Int):=zE (by first|(with_reducible assumption)|assumption);obtain ⟨ad133,e133,hx133_0⟩:=Kd.at_int HR0_2.out x4_1 p133 q133;obtain rfl:ad129=ad133:=(by injection e133);replace hx133_0:=(HB.out.cell (World.block_lt_of_cell? w _ hx133_0)).trans hx133_0;replace p133:=eq_true p133;replace q133:=eq_true q133));try go_wp2_with (first|((with_reducible refine gate_builtin (b:=.append) (xs:=#[.tmp 12,.tmp 18]) rfl ?_);at_builtin;refine Kd.R_append (Kd.int .i64) (w0:=w) w.heap.size rfl (.tmp 12) (.tmp 18) 26 3 (.int .i64 0) 8 rfl Try.underlying26 info3 rfl (by decide) (by omega) u3 x3_1 (rd l0_2 x4_1) [.int .i64 (rd l0_2 x4_1)] (fun _=>True) (fun _=>False) rfl rfl ?aP (fun _ hk=>hk.elim) ?aF ?aO ?aB ?aS ?aL ?_;(case aP=>exact rfl);(case aB=>exact (by repeat (first|(with_reducible first|exact HB.out|apply below_alloc|apply pw_below_drewN|apply below_drew1|refine below_set ?_ GE128.out)|exact HB.out)));(case aF=>exact (fun _ _=>trivial));(case aO=>exact (by (with_reducible repeat (first|apply Kd.R_alloc|apply Kd.R_drewN|apply Kd.R_drew));exact HO_3.out));(case aS=>exact (below_size (by repeat (first|(with_reducible first|exact HB.out|apply below_alloc|apply pw_below_drewN|apply below_drew1|refine below_set ?_ GE128.out)|exact HB.out))));(case aL=>have:=LMc5.out;omega);intro v131 w8 ho hb hg hat;rw [← Ny130.out] at ho;have n0_:=zF (blk_grown (g:=gb128) (o:=.cells #[.int .i64 a0_0,.int .i64 a0_1,.slice (some ad129) l0_2.length c0_2] 41 (0,0)) (by (with_reducible repeat (first|refine blk_drewN ?_ _|refine blk_drew ?_|refine blk_alloc ?_ _));exact BK128.out) hg (Kd.R_ne HO_3.out BK128.out (by decide)));have n1_:=zF (hb);have n2_:=zF (ho);clear BK128;clear HB;clear HO_3;have BK128:=n0_;have HB:=n1_;have HO132:=n2_;clear n0_ n1_ n2_;clear ho hb hg hat;have hcz9_0:w8.cell? ⟨gb128,0,none⟩=some (.int .i64 a0_0):=(blk_cell BK128.out 0).trans rfl;have hcz9_1:w8.cell? ⟨gb128,1,none⟩=some (.int .i64 a0_1):=(blk_cell BK128.out 1).trans rfl;have hcz9_2:w8.cell? ⟨gb128,2,none⟩=some (.slice (some ad129) l0_2.length c0_2):=(blk_cell BK128.out 2).trans rfl;have hfz9_0:=blk_frozen BK128.out 0;have hfz9_1:=blk_frozen BK128.out 1;have hfz9_2:=blk_frozen BK128.out 2;have p133:0≤(x4_1:Int):=zE (by first|(with_reducible assumption)|assumption);have q133:x4_1 < (l0_2.length:Int):=zE (by first|(with_reducible assumption)|assumption);obtain ⟨ad133,e133,hx133_0⟩:=Kd.at_int HR0_2.out x4_1 p133 q133;obtain rfl:ad129=ad133:=(by injection e133);replace hx133_0:=(HB.out.cell (World.block_lt_of_cell? w _ hx133_0)).trans hx133_0;replace p133:=eq_true p133;replace q133:=eq_true q133)))
       go_ret
       exact ⟨_,by first|rfl|(simp [errW_none,errW_some] <;> rfl)|(simp [*,errW_none,errW_some] <;> rfl),by (with_reducible repeat (first|apply Kd.R_alloc|apply Kd.R_drewN|apply Kd.R_drew));exact HO132.out,by repeat (first|(with_reducible first|exact HB.out|apply below_alloc|apply pw_below_drewN|apply below_drew1|refine below_set ?_ GE128.out)|exact HB.out)⟩
      ·
       rw [if_neg c6] at H
       have c6b0:((rd l0_2 x4_1) == a0_1)=false:=beq_eq_false_iff_ne.mpr c6
       have c6b1:((rd l0_2 x4_1) != a0_1)=true:=bne_iff_ne.mpr c6
       have H':=zF H
       clear H
       have hcz10_0:wr.cell? ⟨gb128,0,none⟩=some (.int .i64 a0_0):=(blk_cell BK128.out 0).trans rfl
       have hcz10_1:wr.cell? ⟨gb128,1,none⟩=some (.int .i64 a0_1):=(blk_cell BK128.out 1).trans rfl
       have hcz10_2:wr.cell? ⟨gb128,2,none⟩=some (.slice A0_2 l0_2.length c0_2):=(blk_cell BK128.out 2).trans rfl
       have hfz10_0:=blk_frozen BK128.out 0
       have hfz10_1:=blk_frozen BK128.out 1
       have hfz10_2:=blk_frozen BK128.out 2
       have p129:0≤(x4_1:Int):=zE (by first|(with_reducible assumption)|assumption)
       have q129:x4_1 < (l0_2.length:Int):=zE (by first|(with_reducible assumption)|assumption)
       obtain ⟨ad129,e129,hx129_0⟩:=Kd.at_int HR0_2.out x4_1 p129 q129
       cases e129
       replace hx129_0:=(HB.out.cell (World.block_lt_of_cell? w _ hx129_0)).trans hx129_0
       replace p129:=eq_true p129
       replace q129:=eq_true q129
       go_wp2_with (first|((with_reducible refine gate_builtin (b:=.append) (xs:=#[.tmp 12,.tmp 18]) rfl ?_);at_builtin;refine Kd.R_append (Kd.int .i64) (w0:=w) w.heap.size rfl (.tmp 12) (.tmp 18) 26 3 (.int .i64 0) 8 rfl Try.underlying26 info3 rfl (by decide) (by omega) u3 x3_1 (rd l0_2 x4_1) [.int .i64 (rd l0_2 x4_1)] (fun _=>True) (fun _=>False) rfl rfl ?aP (fun _ hk=>hk.elim) ?aF ?aO ?aB ?aS ?aL ?_;(case aP=>exact rfl);(case aB=>exact (by repeat (first|(with_reducible first|exact HB.out|apply below_alloc|apply pw_below_drewN|apply below_drew1|refine below_set ?_ GE128.out)|exact HB.out)));(case aF=>exact (fun _ _=>trivial));(case aO=>exact (by (with_reducible repeat (first|apply Kd.R_alloc|apply Kd.R_drewN|apply Kd.R_drew));exact HO_3.out));(case aS=>exact (below_size (by repeat (first|(with_reducible first|exact HB.out|apply below_alloc|apply pw_below_drewN|apply below_drew1|refine below_set ?_ GE128.out)|exact HB.out))));(case aL=>have:=LMc5.out;omega);intro v131 w11 ho hb hg hat;rw [← Ny130.out] at ho;have n0_:=zF (blk_grown (g:=gb128) (o:=.cells #[.int .i64 a0_0,.int .i64 a0_1,.slice (some ad129) l0_2.length c0_2] 41 (0,0)) (by (with_reducible repeat (first|refine blk_drewN ?_ _|refine blk_drew ?_|refine blk_alloc ?_ _));exact BK128.out) hg (Kd.R_ne HO_3.out BK128.out (by decide)));have n1_:=zF (hb);have n2_:=zF (ho);clear BK128;clear HB;clear HO_3;have BK128:=n0_;have HB:=n1_;have HO132:=n2_;clear n0_ n1_ n2_;clear ho hb hg hat;have hcz12_0:w11.cell? ⟨gb128,0,none⟩=some (.int .i64 a0_0):=(blk_cell BK128.out 0).trans rfl;have hcz12_1:w11.cell? ⟨gb128,1,none⟩=some (.int .i64 a0_1):=(blk_cell BK128.out 1).trans rfl;have hcz12_2:w11.cell? ⟨gb128,2,none⟩=some (.slice (some ad129) l0_2.length c0_2):=(blk_cell BK128.out 2).trans rfl;have hfz12_0:=blk_frozen BK128.out 0;have hfz12_1:=blk_frozen BK128.out 1;have hfz12_2:=blk_frozen BK128.out 2;have p133:0≤(x4_1:Int):=zE (by first|(with_reducible assumption)|assumption);have q133:x4_1 < (l0_2.length:Int):=zE (by first|(with_reducible assumption)|assumption);obtain ⟨ad133,e133,hx133_0⟩:=Kd.at_int HR0_2.out x4_1 p133 q133;obtain rfl:ad129=ad133:=(by injection e133);replace hx133_0:=(HB.out.cell (World.block_lt_of_cell? w _ hx133_0)).trans hx133_0;replace p133:=eq_true p133;replace q133:=eq_true q133))
       repeat (go_quiet (first|((with_reducible refine gate_builtin (b:=.append) (xs:=#[.tmp 12,.tmp 18]) rfl ?_);at_builtin;refine Kd.R_append (Kd.int .i64) (w0:=w) w.heap.size rfl (.tmp 12) (.tmp 18) 26 3 (.int .i64 0) 8 rfl Try.underlying26 info3 rfl (by decide) (by omega) u3 x3_1 (rd l0_2 x4_1) [.int .i64 (rd l0_2 x4_1)] (fun _=>True) (fun _=>False) rfl rfl ?aP (fun _ hk=>hk.elim) ?aF ?aO ?aB ?aS ?aL ?_;(case aP=>exact rfl);(case aB=>exact (by repeat (first|(with_reducible first|exact HB.out|apply below_alloc|apply pw_below_drewN|apply below_drew1|refine below_set ?_ GE128.out)|exact HB.out)));(case aF=>exact (fun _ _=>trivial));(case aO=>exact (by (with_reducible repeat (first|apply Kd.R_alloc|apply Kd.R_drewN|apply Kd.R_drew));exact HO_3.out));(case aS=>exact (below_size (by repeat (first|(with_reducible first|exact HB.out|apply below_alloc|apply pw_below_drewN|apply below_drew1|refine below_set ?_ GE128.out)|exact HB.out))));(case aL=>have:=LMc5.out;omega);intro v131 w11 ho hb hg hat;rw [← Ny130.out] at ho;have n0_:=zF (blk_grown (g:=gb128) (o:=.cells #[.int .i64 a0_0,.int .i64 a0_1,.slice (some ad129) l0_2.length c0_2] 41 (0,0)) (by (with_reducible repeat (first|refine blk_drewN ?_ _|refine blk_drew ?_|refine blk_alloc ?_ _));exact BK128.out) hg (Kd.R_ne HO_3.out BK128.out (by decide)));have n1_:=zF (hb);have n2_:=zF (ho);clear BK128;clear HB;clear HO_3;have BK128:=n0_;have HB:=n1_;have HO132:=n2_;clear n0_ n1_ n2_;clear ho hb hg hat;have hcz12_0:w11.cell? ⟨gb128,0,none⟩=some (.int .i64 a0_0):=(blk_cell BK128.out 0).trans rfl;have hcz12_1:w11.cell? ⟨gb128,1,none⟩=some (.int .i64 a0_1):=(blk_cell BK128.out 1).trans rfl;have hcz12_2:w11.cell? ⟨gb128,2,none⟩=some (.slice (some ad129) l0_2.length c0_2):=(blk_cell BK128.out 2).trans rfl;have hfz12_0:=blk_frozen BK128.out 0;have hfz12_1:=blk_frozen BK128.out 1;have hfz12_2:=blk_frozen BK128.out 2;have p133:0≤(x4_1:Int):=zE (by first|(with_reducible assumption)|assumption);have q133:x4_1 < (l0_2.length:Int):=zE (by first|(with_reducible assumption)|assumption);obtain ⟨ad133,e133,hx133_0⟩:=Kd.at_int HR0_2.out x4_1 p133 q133;obtain rfl:ad129=ad133:=(by injection e133);replace hx133_0:=(HB.out.cell (World.block_lt_of_cell? w _ hx133_0)).trans hx133_0;replace p133:=eq_true p133;replace q133:=eq_true q133));try go_wp2_with (first|((with_reducible refine gate_builtin (b:=.append) (xs:=#[.tmp 12,.tmp 18]) rfl ?_);at_builtin;refine Kd.R_append (Kd.int .i64) (w0:=w) w.heap.size rfl (.tmp 12) (.tmp 18) 26 3 (.int .i64 0) 8 rfl Try.underlying26 info3 rfl (by decide) (by omega) u3 x3_1 (rd l0_2 x4_1) [.int .i64 (rd l0_2 x4_1)] (fun _=>True) (fun _=>False) rfl rfl ?aP (fun _ hk=>hk.elim) ?aF ?aO ?aB ?aS ?aL ?_;(case aP=>exact rfl);(case aB=>exact (by repeat (first|(with_reducible first|exact HB.out|apply below_alloc|apply pw_below_drewN|apply below_drew1|refine below_set ?_ GE128.out)|exact HB.out)));(case aF=>exact (fun _ _=>trivial));(case aO=>exact (by (with_reducible repeat (first|apply Kd.R_alloc|apply Kd.R_drewN|apply Kd.R_drew));exact HO_3.out));(case aS=>exact (below_size (by repeat (first|(with_reducible first|exact HB.out|apply below_alloc|apply pw_below_drewN|apply below_drew1|refine below_set ?_ GE128.out)|exact HB.out))));(case aL=>have:=LMc5.out;omega);intro v131 w11 ho hb hg hat;rw [← Ny130.out] at ho;have n0_:=zF (blk_grown (g:=gb128) (o:=.cells #[.int .i64 a0_0,.int .i64 a0_1,.slice (some ad129) l0_2.length c0_2] 41 (0,0)) (by (with_reducible repeat (first|refine blk_drewN ?_ _|refine blk_drew ?_|refine blk_alloc ?_ _));exact BK128.out) hg (Kd.R_ne HO_3.out BK128.out (by decide)));have n1_:=zF (hb);have n2_:=zF (ho);clear BK128;clear HB;clear HO_3;have BK128:=n0_;have HB:=n1_;have HO132:=n2_;clear n0_ n1_ n2_;clear ho hb hg hat;have hcz12_0:w11.cell? ⟨gb128,0,none⟩=some (.int .i64 a0_0):=(blk_cell BK128.out 0).trans rfl;have hcz12_1:w11.cell? ⟨gb128,1,none⟩=some (.int .i64 a0_1):=(blk_cell BK128.out 1).trans rfl;have hcz12_2:w11.cell? ⟨gb128,2,none⟩=some (.slice (some ad129) l0_2.length c0_2):=(blk_cell BK128.out 2).trans rfl;have hfz12_0:=blk_frozen BK128.out 0;have hfz12_1:=blk_frozen BK128.out 1;have hfz12_2:=blk_frozen BK128.out 2;have p133:0≤(x4_1:Int):=zE (by first|(with_reducible assumption)|assumption);have q133:x4_1 < (l0_2.length:Int):=zE (by first|(with_reducible assumption)|assumption);obtain ⟨ad133,e133,hx133_0⟩:=Kd.at_int HR0_2.out x4_1 p133 q133;obtain rfl:ad129=ad133:=(by injection e133);replace hx133_0:=(HB.out.cell (World.block_lt_of_cell? w _ hx133_0)).trans hx133_0;replace p133:=eq_true p133;replace q133:=eq_true q133)))
       go_roundg k1
       case measure=>have:=HK1.out;omega
       case rel=>exact ⟨(y130),(wrap64 (x4_1 + 1)),(by first|rfl|(simp;done)|(simp [*];done)),H',⟨by have:=HK1.out;omega⟩,⟨by (with_reducible repeat (first|apply Kd.R_alloc|apply Kd.R_drewN|apply Kd.R_drew));exact HO132.out⟩,⟨by (with_reducible repeat (first|refine blk_drewN ?_ _|refine blk_drew ?_|refine blk_alloc ?_ _));exact BK128.out⟩,⟨by repeat (first|(with_reducible first|exact HB.out|apply below_alloc|apply pw_below_drewN|apply below_drew1|refine below_set ?_ GE128.out)|exact HB.out)⟩⟩
     ·
      rw [if_neg c5] at H
      exact absurd H (by simp)
    ·
     rw [if_neg c4] at H
     exact absurd H (by simp)
   ·
    rw [if_neg c3] at H
    have c3b0:decide (x4_1 < (l0_2.length:Int))=false:=decide_eq_false c3
    clear c3
    by_cases c13:x3_1.length < 17592186044416
    ·
     rw [if_pos c13] at H
     have LMc13:=zF c13
     clear c13
     obtain ⟨y134,hy134⟩:∃ y_:List Int,y_=(x3_1 ++ [a0_1]):=⟨_,rfl⟩
     replace H:(some y134)=some r:=by first|(rw [hy134];with_reducible exact H)|(have H2_:=(Option.bind_some _ _).symm.trans H;rw [hy134];with_reducible exact H2_)|(have H2_:=(Option.bind_some _ _).symm.trans H;with_reducible exact H2_)|with_reducible exact H|(rw [hy134];exact H)|exact H
     have Ny134:=zF hy134
     clear hy134
     obtain rfl:=Option.some.inj H
     have hcz14_0:wr.cell? ⟨gb128,0,none⟩=some (.int .i64 a0_0):=(blk_cell BK128.out 0).trans rfl
     have hcz14_1:wr.cell? ⟨gb128,1,none⟩=some (.int .i64 a0_1):=(blk_cell BK128.out 1).trans rfl
     have hcz14_2:wr.cell? ⟨gb128,2,none⟩=some (.slice A0_2 l0_2.length c0_2):=(blk_cell BK128.out 2).trans rfl
     have hfz14_0:=blk_frozen BK128.out 0
     have hfz14_1:=blk_frozen BK128.out 1
     have hfz14_2:=blk_frozen BK128.out 2
     go_wp2_with (first|((with_reducible refine gate_builtin (b:=.append) (xs:=#[.tmp 29,.tmp 32]) rfl ?_);at_builtin;refine Kd.R_append (Kd.int .i64) (w0:=w) w.heap.size rfl (.tmp 29) (.tmp 32) 26 3 (.int .i64 0) 8 rfl Try.underlying26 info3 rfl (by decide) (by omega) u3 x3_1 a0_1 [.int .i64 a0_1] (fun _=>True) (fun _=>False) rfl rfl ?aP (fun _ hk=>hk.elim) ?aF ?aO ?aB ?aS ?aL ?_;(case aP=>exact rfl);(case aB=>exact (by repeat (first|(with_reducible first|exact HB.out|apply below_alloc|apply pw_below_drewN|apply below_drew1|refine below_set ?_ GE128.out)|exact HB.out)));(case aF=>exact (fun _ _=>trivial));(case aO=>exact (by (with_reducible repeat (first|apply Kd.R_alloc|apply Kd.R_drewN|apply Kd.R_drew));exact HO_3.out));(case aS=>exact (below_size (by repeat (first|(with_reducible first|exact HB.out|apply below_alloc|apply pw_below_drewN|apply below_drew1|refine below_set ?_ GE128.out)|exact HB.out))));(case aL=>have:=LMc13.out;omega);intro v135 w15 ho hb hg hat;rw [← Ny134.out] at ho;have n0_:=zF (blk_grown (g:=gb128) (o:=.cells #[.int .i64 a0_0,.int .i64 a0_1,.slice A0_2 l0_2.length c0_2] 41 (0,0)) (by (with_reducible repeat (first|refine blk_drewN ?_ _|refine blk_drew ?_|refine blk_alloc ?_ _));exact BK128.out) hg (Kd.R_ne HO_3.out BK128.out (by decide)));have n1_:=zF (hb);have n2_:=zF (ho);clear BK128;clear HB;clear HO_3;have BK128:=n0_;have HB:=n1_;have HO136:=n2_;clear n0_ n1_ n2_;clear ho hb hg hat))
     repeat (go_quiet (first|((with_reducible refine gate_builtin (b:=.append) (xs:=#[.tmp 29,.tmp 32]) rfl ?_);at_builtin;refine Kd.R_append (Kd.int .i64) (w0:=w) w.heap.size rfl (.tmp 29) (.tmp 32) 26 3 (.int .i64 0) 8 rfl Try.underlying26 info3 rfl (by decide) (by omega) u3 x3_1 a0_1 [.int .i64 a0_1] (fun _=>True) (fun _=>False) rfl rfl ?aP (fun _ hk=>hk.elim) ?aF ?aO ?aB ?aS ?aL ?_;(case aP=>exact rfl);(case aB=>exact (by repeat (first|(with_reducible first|exact HB.out|apply below_alloc|apply pw_below_drewN|apply below_drew1|refine below_set ?_ GE128.out)|exact HB.out)));(case aF=>exact (fun _ _=>trivial));(case aO=>exact (by (with_reducible repeat (first|apply Kd.R_alloc|apply Kd.R_drewN|apply Kd.R_drew));exact HO_3.out));(case aS=>exact (below_size (by repeat (first|(with_reducible first|exact HB.out|apply below_alloc|apply pw_below_drewN|apply below_drew1|refine below_set ?_ GE128.out)|exact HB.out))));(case aL=>have:=LMc13.out;omega);intro v135 w15 ho hb hg hat;rw [← Ny134.out] at ho;have n0_:=zF (blk_grown (g:=gb128) (o:=.cells #[.int .i64 a0_0,.int .i64 a0_1,.slice A0_2 l0_2.length c0_2] 41 (0,0)) (by (with_reducible repeat (first|refine blk_drewN ?_ _|refine blk_drew ?_|refine blk_alloc ?_ _));exact BK128.out) hg (Kd.R_ne HO_3.out BK128.out (by decide)));have n1_:=zF (hb);have n2_:=zF (ho);clear BK128;clear HB;clear HO_3;have BK128:=n0_;have HB:=n1_;have HO136:=n2_;clear n0_ n1_ n2_;clear ho hb hg hat));try go_wp2_with (first|((with_reducible refine gate_builtin (b:=.append) (xs:=#[.tmp 29,.tmp 32]) rfl ?_);at_builtin;refine Kd.R_append (Kd.int .i64) (w0:=w) w.heap.size rfl (.tmp 29) (.tmp 32) 26 3 (.int .i64 0) 8 rfl Try.underlying26 info3 rfl (by decide) (by omega) u3 x3_1 a0_1 [.int .i64 a0_1] (fun _=>True) (fun _=>False) rfl rfl ?aP (fun _ hk=>hk.elim) ?aF ?aO ?aB ?aS ?aL ?_;(case aP=>exact rfl);(case aB=>exact (by repeat (first|(with_reducible first|exact HB.out|apply below_alloc|apply pw_below_drewN|apply below_drew1|refine below_set ?_ GE128.out)|exact HB.out)));(case aF=>exact (fun _ _=>trivial));(case aO=>exact (by (with_reducible repeat (first|apply Kd.R_alloc|apply Kd.R_drewN|apply Kd.R_drew));exact HO_3.out));(case aS=>exact (below_size (by repeat (first|(with_reducible first|exact HB.out|apply below_alloc|apply pw_below_drewN|apply below_drew1|refine below_set ?_ GE128.out)|exact HB.out))));(case aL=>have:=LMc13.out;omega);intro v135 w15 ho hb hg hat;rw [← Ny134.out] at ho;have n0_:=zF (blk_grown (g:=gb128) (o:=.cells #[.int .i64 a0_0,.int .i64 a0_1,.slice A0_2 l0_2.length c0_2] 41 (0,0)) (by (with_reducible repeat (first|refine blk_drewN ?_ _|refine blk_drew ?_|refine blk_alloc ?_ _));exact BK128.out) hg (Kd.R_ne HO_3.out BK128.out (by decide)));have n1_:=zF (hb);have n2_:=zF (ho);clear BK128;clear HB;clear HO_3;have BK128:=n0_;have HB:=n1_;have HO136:=n2_;clear n0_ n1_ n2_;clear ho hb hg hat)))
     go_ret
     exact ⟨_,by first|rfl|(simp [errW_none,errW_some] <;> rfl)|(simp [*,errW_none,errW_some] <;> rfl),by (with_reducible repeat (first|apply Kd.R_alloc|apply Kd.R_drewN|apply Kd.R_drew));exact HO136.out,by repeat (first|(with_reducible first|exact HB.out|apply below_alloc|apply pw_below_drewN|apply below_drew1|refine below_set ?_ GE128.out)|exact HB.out)⟩
    ·
     rw [if_neg c13] at H
     exact absurd H (by simp)

end Go.Proofs.Ytjgnkhfgmpaljaa.P
namespace Go.Proofs.Ytjgnkhfgmpaljaa.P
open Go.RowKit Go.Proofs.YtjgnkhfgmpaljaaW.PrintWords Go.Proofs.YtjgnkhfgmpaljaaW.PrintLast Go.Proofs.YtjgnkhfgmpaljaaW.PrintMore
attribute [local go_sem] max2_int min2_int max_two min_two max_three min_three max_four min_four   -- for this text's walks alone
set_option linter.unusedVariables false
set_option linter.unusedSimpArgs false

def cohousingref23_SameInts.l0:Nat→List Int→List Int→Int→Option (Bool)
 | 0,_,_,_=>none
 | k + 1,x0,x1,x5=>if x5 < (x0.length:Int) then (if 0≤x5 then (if x5 < (x1.length:Int) then (if (rd x0 x5)=(rd x1 x5) then (cohousingref23_SameInts.l0 k x0 x1 (wrap64 (x5 + 1))) else (some false)) else (none)) else (none)) else (some true)
def cohousingref23_SameInts.f (k:Nat) (l0:List Int) (l1:List Int):Option (Bool):=if (l0.length:Int)=(l1.length:Int) then (cohousingref23_SameInts.l0 k l0 l1 0) else (some false)
theorem cohousingref23_SameInts.mono_l:∀ k,(∀ y0 y1 y2,LeO (cohousingref23_SameInts.l0 k y0 y1 y2) (cohousingref23_SameInts.l0 (k + 1) y0 y1 y2))
 | 0=>fun _ _ _ r h=>by simp [cohousingref23_SameInts.l0] at h
 | k + 1=>by
  have ih0:=cohousingref23_SameInts.mono_l k
  ·
   intro y0 y1 y2
   unfold cohousingref23_SameInts.l0
   repeat' first
   | (with_reducible exact ih0 _ _ _)
   | (with_reducible exact LeO.refl _)
   | (with_reducible exact LeO.none _)
   | (with_reducible refine LeO.ite ?_ ?_)
   | (with_reducible refine LeO.bind ?_ (fun _=>?_))
   | exact ih0 _ _ _
   | exact LeO.none _
   | refine LeO.ite ?_ ?_
   | refine LeO.bind ?_ (fun _=>?_)
theorem cohousingref23_SameInts.mono:∀ a0 a1 k,LeO (cohousingref23_SameInts.f k a0 a1) (cohousingref23_SameInts.f (k + 1) a0 a1):=by
 intro a0 a1 k
 have ih0:=cohousingref23_SameInts.mono_l k
 unfold cohousingref23_SameInts.f
 repeat' first
   | (with_reducible exact ih0 _ _ _)
   | (with_reducible exact LeO.refl _)
   | (with_reducible exact LeO.none _)
   | (with_reducible refine LeO.ite ?_ ?_)
   | (with_reducible refine LeO.bind ?_ (fun _=>?_))
   | exact ih0 _ _ _
   | exact LeO.none _
   | refine LeO.ite ?_ ?_
   | refine LeO.bind ?_ (fun _=>?_)
end Go.Proofs.Ytjgnkhfgmpaljaa.P
namespace Go.Proofs.Ytjgnkhfgmpaljaa.P
open Go.RowKit Go.Proofs.YtjgnkhfgmpaljaaW.PrintWords Go.Proofs.YtjgnkhfgmpaljaaW.PrintLast Go.Proofs.YtjgnkhfgmpaljaaW.PrintMore
attribute [local go_sem] max2_int min2_int max_two min_two max_three min_three max_four min_four   -- for this text's walks alone
set_option linter.unusedVariables false
set_option linter.unusedSimpArgs false

theorem eqA39 (d:Nat) (w:World) (x0 y0:Int) (x1 y1:Int) (x2 y2:Int) :
  (Op.equalIn (d + 2) 39 (.agg #[.int .i64 x0,.int .i64 x1,.int .i64 x2]) (.agg #[.int .i64 y0,.int .i64 y1,.int .i64 y2])).run Try.prog w = .ok (x0 == y0 && (x1 == y1 && (x2 == y2))) w:=by
 refine eqA_of Try.underlying39 (by kernel_rfl) ?_
 refine eqf_cons (by rfl) (by go_simp;rfl) (by go_simp;rfl) (by go_simp) ?_
 refine eqf_cons (by rfl) (by go_simp;rfl) (by go_simp;rfl) (by go_simp) ?_
 exact eqf_last (by rfl) (by go_simp;rfl) (by go_simp;rfl) (by go_simp)
end Go.Proofs.Ytjgnkhfgmpaljaa.P
namespace Go.Proofs.Ytjgnkhfgmpaljaa.P
open Go.RowKit Go.Proofs.YtjgnkhfgmpaljaaW.PrintWords Go.Proofs.YtjgnkhfgmpaljaaW.PrintLast Go.Proofs.YtjgnkhfgmpaljaaW.PrintMore
attribute [local go_sem] max2_int min2_int max_two min_two max_three min_three max_four min_four   -- for this text's walks alone
set_option linter.unusedVariables false
set_option linter.unusedSimpArgs false

attribute [local go_sem high] eqA39
def cohousingref24_SameMoves.l0:Nat→List (S39)→List (S39)→Int→Option (Bool)
 | 0,_,_,_=>none
 | k + 1,x0,x1,x5=>if x5 < (x0.length:Int) then (if 0≤x5 then (if x5 < (x1.length:Int) then (if (!(((rd_T39 x0 x5).f0) == ((rd_T39 x1 x5).f0)) || (!(((rd_T39 x0 x5).f1) == ((rd_T39 x1 x5).f1)) || (!(((rd_T39 x0 x5).f2) == ((rd_T39 x1 x5).f2)))))=true then (some false) else (cohousingref24_SameMoves.l0 k x0 x1 (wrap64 (x5 + 1)))) else (none)) else (none)) else (some true)
def cohousingref24_SameMoves.f (k:Nat) (l0:List (S39)) (l1:List (S39)):Option (Bool):=if (l0.length:Int)=(l1.length:Int) then (cohousingref24_SameMoves.l0 k l0 l1 0) else (some false)
theorem cohousingref24_SameMoves.mono_l:∀ k,(∀ y0 y1 y2,LeO (cohousingref24_SameMoves.l0 k y0 y1 y2) (cohousingref24_SameMoves.l0 (k + 1) y0 y1 y2))
 | 0=>fun _ _ _ r h=>by simp [cohousingref24_SameMoves.l0] at h
 | k + 1=>by
  have ih0:=cohousingref24_SameMoves.mono_l k
  ·
   intro y0 y1 y2
   unfold cohousingref24_SameMoves.l0
   repeat' first
   | (with_reducible exact ih0 _ _ _)
   | (with_reducible exact LeO.refl _)
   | (with_reducible exact LeO.none _)
   | (with_reducible refine LeO.ite ?_ ?_)
   | (with_reducible refine LeO.bind ?_ (fun _=>?_))
   | exact ih0 _ _ _
   | exact LeO.none _
   | refine LeO.ite ?_ ?_
   | refine LeO.bind ?_ (fun _=>?_)
theorem cohousingref24_SameMoves.mono:∀ a0 a1 k,LeO (cohousingref24_SameMoves.f k a0 a1) (cohousingref24_SameMoves.f (k + 1) a0 a1):=by
 intro a0 a1 k
 have ih0:=cohousingref24_SameMoves.mono_l k
 unfold cohousingref24_SameMoves.f
 repeat' first
   | (with_reducible exact ih0 _ _ _)
   | (with_reducible exact LeO.refl _)
   | (with_reducible exact LeO.none _)
   | (with_reducible refine LeO.ite ?_ ?_)
   | (with_reducible refine LeO.bind ?_ (fun _=>?_))
   | exact ih0 _ _ _
   | exact LeO.none _
   | refine LeO.ite ?_ ?_
   | refine LeO.bind ?_ (fun _=>?_)
set_option maxHeartbeats 8000000 in
set_option maxRecDepth 100000 in
theorem cohousingref24_SameMoves.calls (k:Nat) (A0:Option Addr) (c0:Nat) (l0:List (S39)) (A1:Option Addr) (c1:Nat) (l1:List (S39)) (r:Bool) (w:World) (hr0:Kd.C k39 w A0 l0.length l0) (hc0:l0.length≤c0) (hr1:Kd.C k39 w A1 l1.length l1) (hc1:l1.length≤c1) (h:cohousingref24_SameMoves.f k l0 l1=some r) :
  Calls Try.prog 20 #[.slice A0 l0.length c0,.slice A1 l1.length c1] w fun e w'=>e = .returned (.bool r)∧Drawn0 w w':=by
 have hu39:=Try.underlying39
 have HR0:=zF hr0
 have HC0:=zF hc0
 clear hr0 hc0
 have HR1:=zF hr1
 have HC1:=zF hc1
 clear hr1 hc1
 have H:(if (l0.length:Int)=(l1.length:Int) then (cohousingref24_SameMoves.l0 k l0 l1 0) else (some false))=some r:=h
 clear h
 by_cases c3:(l0.length:Int)=(l1.length:Int)
 ·
  rw [if_pos c3] at H
  have c3b0:((l0.length:Int) == (l1.length:Int))=true:=beq_iff_eq.mpr c3
  have c3b1:((l0.length:Int) != (l1.length:Int))=false:=bne_eq_false_iff_eq.mpr c3
  have c3b2:(l0.length == l1.length)=true:=by first|simpa using c3|(simp at c3 ⊢;omega)
  clear c3
  have H':=zF H
  clear H
  go_enter Try.func20,Try.ntmps20
  go_wp2
  repeat (go_quiet (fail);try go_wp2)
  go_loopg [5] k (fun kq v5 w'=>∃ (x5_1:Int),v5 = .int .i64 x5_1∧Aside0 (cohousingref24_SameMoves.l0 kq l0 l1 x5_1=some r)∧Aside0 (kq≤k)∧Drawn0 w w')
  case atStart=>exact ⟨(0),(by first|rfl|(simp;done)|(simp [*];done)),H',⟨Nat.le_refl _⟩,by repeat (first|exact Drawn0.refl _|apply Drawn0.step)⟩
  case round =>
   clear H'
   try clear c1
   try clear c2
   try clear p2
   try clear c3
   try clear c3b0
   try clear c3b1
   try clear c3b2
   obtain ⟨x5_1,rfl,HA,HK1,⟨m1,rfl⟩⟩:=hrel
   cases gk with
   | zero=>exact absurd HA.out (by simp [cohousingref24_SameMoves.l0])
   | succ k1 =>
    have H:=HA.out
    clear HA
    simp only [cohousingref24_SameMoves.l0] at H
    by_cases c4:x5_1 < (l0.length:Int)
    ·
     rw [if_pos c4] at H
     have c4b0:decide (x5_1 < (l0.length:Int))=true:=decide_eq_true c4
     clear c4
     by_cases c5:0≤x5_1
     ·
      rw [if_pos c5] at H
      have c5b0:decide (0≤x5_1)=true:=decide_eq_true c5
      clear c5
      by_cases c6:x5_1 < (l1.length:Int)
      ·
       rw [if_pos c6] at H
       have c6b0:decide (x5_1 < (l1.length:Int))=true:=decide_eq_true c6
       clear c6
       by_cases c7:(!(((rd_T39 l0 x5_1).f0) == ((rd_T39 l1 x5_1).f0)) || (!(((rd_T39 l0 x5_1).f1) == ((rd_T39 l1 x5_1).f1)) || (!(((rd_T39 l0 x5_1).f2) == ((rd_T39 l1 x5_1).f2)))))=true
       ·
        rw [if_pos c7] at H
        have c7b0:(!(((rd_T39 l0 x5_1).f0) == ((rd_T39 l1 x5_1).f0)) || (!(((rd_T39 l0 x5_1).f1) == ((rd_T39 l1 x5_1).f1)) || (!(((rd_T39 l0 x5_1).f2) == ((rd_T39 l1 x5_1).f2)))))=true:=c7
        clear c7
        obtain rfl:=Option.some.inj H
        have p242:0≤(x5_1:Int):=zE (by first|(with_reducible assumption)|assumption)
        have q242:x5_1 < (l0.length:Int):=zE (by first|(with_reducible assumption)|assumption)
        obtain ⟨ad242,e242,hx242_0,hx242_1,hx242_2⟩:=at_T39 HR0.out x5_1 p242 q242
        cases e242
        replace p242:=eq_true p242
        replace q242:=eq_true q242
        have p243:0≤(x5_1:Int):=zE (by first|(with_reducible assumption)|assumption)
        have q243:x5_1 < (l1.length:Int):=zE (by first|(with_reducible assumption)|assumption)
        obtain ⟨ad243,e243,hx243_0,hx243_1,hx243_2⟩:=at_T39 HR1.out x5_1 p243 q243
        cases e243
        replace p243:=eq_true p243
        replace q243:=eq_true q243
        go_wp2
        repeat (go_quiet (fail);try go_wp2)
        go_ret
        exact ⟨by first|rfl|(simp;done)|(simp [*];done),by repeat (first|exact Drawn0.refl _|apply Drawn0.step)⟩
       ·
        rw [if_neg c7] at H
        have c7b0:(!(((rd_T39 l0 x5_1).f0) == ((rd_T39 l1 x5_1).f0)) || (!(((rd_T39 l0 x5_1).f1) == ((rd_T39 l1 x5_1).f1)) || (!(((rd_T39 l0 x5_1).f2) == ((rd_T39 l1 x5_1).f2)))))=false:=by simpa using c7
        clear c7
        have H':=zF H
        clear H
        have p242:0≤(x5_1:Int):=zE (by first|(with_reducible assumption)|assumption)
        have q242:x5_1 < (l0.length:Int):=zE (by first|(with_reducible assumption)|assumption)
        obtain ⟨ad242,e242,hx242_0,hx242_1,hx242_2⟩:=at_T39 HR0.out x5_1 p242 q242
        cases e242
        replace p242:=eq_true p242
        replace q242:=eq_true q242
        have p243:0≤(x5_1:Int):=zE (by first|(with_reducible assumption)|assumption)
        have q243:x5_1 < (l1.length:Int):=zE (by first|(with_reducible assumption)|assumption)
        obtain ⟨ad243,e243,hx243_0,hx243_1,hx243_2⟩:=at_T39 HR1.out x5_1 p243 q243
        cases e243
        replace p243:=eq_true p243
        replace q243:=eq_true q243
        go_wp2
        repeat (go_quiet (fail);try go_wp2)
        go_roundg k1
        case measure=>have:=HK1.out;omega
        case rel=>exact ⟨(wrap64 (x5_1 + 1)),(by first|rfl|(simp;done)|(simp [*];done)),H',⟨by have:=HK1.out;omega⟩,by repeat (first|exact Drawn0.refl _|apply Drawn0.step)⟩
      ·
       rw [if_neg c6] at H
       exact absurd H (by simp)
     ·
      rw [if_neg c5] at H
      exact absurd H (by simp)
    ·
     rw [if_neg c4] at H
     have c4b0:decide (x5_1 < (l0.length:Int))=false:=decide_eq_false c4
     clear c4
     obtain rfl:=Option.some.inj H
     go_wp2
     repeat (go_quiet (fail);try go_wp2)
     go_ret
     exact ⟨by first|rfl|(simp;done)|(simp [*];done),by repeat (first|exact Drawn0.refl _|apply Drawn0.step)⟩
 ·
  rw [if_neg c3] at H
  have c3b0:((l0.length:Int) == (l1.length:Int))=false:=beq_eq_false_iff_ne.mpr c3
  have c3b1:((l0.length:Int) != (l1.length:Int))=true:=bne_iff_ne.mpr c3
  have c3b2:(l0.length == l1.length)=false:=by first|simpa using c3|(simp at c3 ⊢;omega)
  obtain rfl:=Option.some.inj H
  go_enter Try.func20,Try.ntmps20
  go_wp2
  repeat (go_quiet (fail);try go_wp2)
  go_ret
  exact ⟨by first|rfl|(simp;done)|(simp [*];done),by repeat (first|exact Drawn0.refl _|apply Drawn0.step)⟩

end Go.Proofs.Ytjgnkhfgmpaljaa.P
namespace Go.Proofs.Ytjgnkhfgmpaljaa.P
open Go.RowKit Go.Proofs.YtjgnkhfgmpaljaaW.PrintWords Go.Proofs.YtjgnkhfgmpaljaaW.PrintLast Go.Proofs.YtjgnkhfgmpaljaaW.PrintMore
attribute [local go_sem] max2_int min2_int max_two min_two max_three min_three max_four min_four   -- for this text's walks alone
set_option linter.unusedVariables false
set_option linter.unusedSimpArgs false

def cohousingref24_SameRings.l0:Nat→List (S47)→List (S47)→Int→Option (Bool)
 | 0,_,_,_=>none
 | k + 1,x0,x1,x5=>if x5 < (x0.length:Int) then (if 0≤x5 then (if x5 < (x1.length:Int) then (if (((rd_T47 x0 x5).f0) != ((rd_T47 x1 x5).f0))=true then (some false) else ((cohousingref24_SameMoves.f k ((rd_T47 x0 x5).f1) ((rd_T47 x1 x5).f1)).bind fun t248=>(if t248=true then (cohousingref24_SameRings.l0 k x0 x1 (wrap64 (x5 + 1))) else (some false)))) else (none)) else (none)) else (some true)
def cohousingref24_SameRings.f (k:Nat) (l0:List (S47)) (l1:List (S47)):Option (Bool):=if (l0.length:Int)=(l1.length:Int) then (cohousingref24_SameRings.l0 k l0 l1 0) else (some false)
theorem cohousingref24_SameRings.mono_l:∀ k,(∀ y0 y1 y2,LeO (cohousingref24_SameRings.l0 k y0 y1 y2) (cohousingref24_SameRings.l0 (k + 1) y0 y1 y2))
 | 0=>fun _ _ _ r h=>by simp [cohousingref24_SameRings.l0] at h
 | k + 1=>by
  have ih0:=cohousingref24_SameRings.mono_l k
  ·
   intro y0 y1 y2
   unfold cohousingref24_SameRings.l0
   repeat' first
   | (with_reducible exact ih0 _ _ _)
   | (with_reducible exact cohousingref24_SameMoves.mono _ _ _)
   | (with_reducible exact LeO.refl _)
   | (with_reducible exact LeO.none _)
   | (with_reducible refine LeO.ite ?_ ?_)
   | (with_reducible refine LeO.bind ?_ (fun _=>?_))
   | exact ih0 _ _ _
   | exact cohousingref24_SameMoves.mono _ _ _
   | exact LeO.none _
   | refine LeO.ite ?_ ?_
   | refine LeO.bind ?_ (fun _=>?_)
theorem cohousingref24_SameRings.mono:∀ a0 a1 k,LeO (cohousingref24_SameRings.f k a0 a1) (cohousingref24_SameRings.f (k + 1) a0 a1):=by
 intro a0 a1 k
 have ih0:=cohousingref24_SameRings.mono_l k
 unfold cohousingref24_SameRings.f
 repeat' first
   | (with_reducible exact ih0 _ _ _)
   | (with_reducible exact cohousingref24_SameMoves.mono _ _ _)
   | (with_reducible exact LeO.refl _)
   | (with_reducible exact LeO.none _)
   | (with_reducible refine LeO.ite ?_ ?_)
   | (with_reducible refine LeO.bind ?_ (fun _=>?_))
   | exact ih0 _ _ _
   | exact cohousingref24_SameMoves.mono _ _ _
   | exact LeO.none _
   | refine LeO.ite ?_ ?_
   | refine LeO.bind ?_ (fun _=>?_)
set_option maxHeartbeats 8000000 in
set_option maxRecDepth 100000 in
theorem cohousingref24_SameRings.calls (k:Nat) (A0:Option Addr) (c0:Nat) (l0:List (S47)) (A1:Option Addr) (c1:Nat) (l1:List (S47)) (r:Bool) (w:World) (hr0:Kd.C k47 w A0 l0.length l0) (hc0:l0.length≤c0) (hr1:Kd.C k47 w A1 l1.length l1) (hc1:l1.length≤c1) (h:cohousingref24_SameRings.f k l0 l1=some r) :
  Calls Try.prog 21 #[.slice A0 l0.length c0,.slice A1 l1.length c1] w fun e w'=>e = .returned (.bool r)∧Drawn0 w w':=by
 have HR0:=zF hr0
 have HC0:=zF hc0
 clear hr0 hc0
 have HR1:=zF hr1
 have HC1:=zF hc1
 clear hr1 hc1
 have H:(if (l0.length:Int)=(l1.length:Int) then (cohousingref24_SameRings.l0 k l0 l1 0) else (some false))=some r:=h
 clear h
 by_cases c3:(l0.length:Int)=(l1.length:Int)
 ·
  rw [if_pos c3] at H
  have c3b0:((l0.length:Int) == (l1.length:Int))=true:=beq_iff_eq.mpr c3
  have c3b1:((l0.length:Int) != (l1.length:Int))=false:=bne_eq_false_iff_eq.mpr c3
  have c3b2:(l0.length == l1.length)=true:=by first|simpa using c3|(simp at c3 ⊢;omega)
  clear c3
  have H':=zF H
  clear H
  go_enter Try.func21,Try.ntmps21
  go_wp2
  repeat (go_quiet (fail);try go_wp2)
  go_loopg [5] k (fun kq v5 w'=>∃ (x5_1:Int),v5 = .int .i64 x5_1∧Aside0 (cohousingref24_SameRings.l0 kq l0 l1 x5_1=some r)∧Aside0 (kq≤k)∧Drawn0 w w')
  case atStart=>exact ⟨(0),(by first|rfl|(simp;done)|(simp [*];done)),H',⟨Nat.le_refl _⟩,by repeat (first|exact Drawn0.refl _|apply Drawn0.step)⟩
  case round =>
   clear H'
   try clear c1
   try clear c2
   try clear p2
   try clear c3
   try clear c3b0
   try clear c3b1
   try clear c3b2
   obtain ⟨x5_1,rfl,HA,HK1,⟨m1,rfl⟩⟩:=hrel
   cases gk with
   | zero=>exact absurd HA.out (by simp [cohousingref24_SameRings.l0])
   | succ k1 =>
    have H:=HA.out
    clear HA
    simp only [cohousingref24_SameRings.l0] at H
    by_cases c4:x5_1 < (l0.length:Int)
    ·
     rw [if_pos c4] at H
     have c4b0:decide (x5_1 < (l0.length:Int))=true:=decide_eq_true c4
     clear c4
     by_cases c5:0≤x5_1
     ·
      rw [if_pos c5] at H
      have c5b0:decide (0≤x5_1)=true:=decide_eq_true c5
      clear c5
      by_cases c6:x5_1 < (l1.length:Int)
      ·
       rw [if_pos c6] at H
       have c6b0:decide (x5_1 < (l1.length:Int))=true:=decide_eq_true c6
       clear c6
       by_cases c7:(((rd_T47 l0 x5_1).f0) != ((rd_T47 l1 x5_1).f0))=true
       ·
        rw [if_pos c7] at H
        have c7b0:(((rd_T47 l0 x5_1).f0) != ((rd_T47 l1 x5_1).f0))=true:=c7
        (try (have c7b1:decide (((rd_T47 l0 x5_1).f0)=((rd_T47 l1 x5_1).f0))=false:=by simpa using c7))
        (try (have c7b2:(((rd_T47 l0 x5_1).f0) == ((rd_T47 l1 x5_1).f0))=false:=by simpa using c7))
        (try (have c7b3:¬ (((rd_T47 l0 x5_1).f0)=((rd_T47 l1 x5_1).f0)):=by simpa using c7))
        clear c7
        obtain rfl:=Option.some.inj H
        have p244:0≤(x5_1:Int):=zE (by first|(with_reducible assumption)|assumption)
        have q244:x5_1 < (l0.length:Int):=zE (by first|(with_reducible assumption)|assumption)
        obtain ⟨ad244,A244_1,c244_1,e244,hx244_0,hx244_1,hl244_1,hi244_1⟩:=at_T47 HR0.out x5_1 p244 q244
        cases e244
        have HR244_1:=zF hi244_1
        have HC244_1:=zF hl244_1
        clear hi244_1 hl244_1
        replace p244:=eq_true p244
        replace q244:=eq_true q244
        have p245:0≤(x5_1:Int):=zE (by first|(with_reducible assumption)|assumption)
        have q245:x5_1 < (l1.length:Int):=zE (by first|(with_reducible assumption)|assumption)
        obtain ⟨ad245,A245_1,c245_1,e245,hx245_0,hx245_1,hl245_1,hi245_1⟩:=at_T47 HR1.out x5_1 p245 q245
        cases e245
        have HR245_1:=zF hi245_1
        have HC245_1:=zF hl245_1
        clear hi245_1 hl245_1
        replace p245:=eq_true p245
        replace q245:=eq_true q245
        go_wp2
        repeat (go_quiet (fail);try go_wp2)
        go_ret
        exact ⟨by first|rfl|(simp;done)|(simp [*];done),by repeat (first|exact Drawn0.refl _|apply Drawn0.step)⟩
       ·
        rw [if_neg c7] at H
        have c7b0:(((rd_T47 l0 x5_1).f0) != ((rd_T47 l1 x5_1).f0))=false:=by simpa using c7
        (try (have c7b1:decide (((rd_T47 l0 x5_1).f0)=((rd_T47 l1 x5_1).f0))=true:=by simpa using c7))
        (try (have c7b2:(((rd_T47 l0 x5_1).f0) == ((rd_T47 l1 x5_1).f0))=true:=by simpa using c7))
        clear c7
        replace H:=Option.bind_eq_some_iff.mp H
        obtain ⟨t248,A80,H⟩:=H
        replace H:(if t248=true then (cohousingref24_SameRings.l0 k1 l0 l1 (wrap64 (x5_1 + 1))) else (some false))=some r:=H
        have A8:=zF A80
        clear A80
        by_cases c9:t248=true
        ·
         subst c9
         have H1:(cohousingref24_SameRings.l0 k1 l0 l1 (wrap64 (x5_1 + 1)))=some r:=by rw [if_pos rfl] at H;exact H
         clear H
         have H:=H1
         clear H1
         have H':=zF H
         clear H
         have p244:0≤(x5_1:Int):=zE (by first|(with_reducible assumption)|assumption)
         have q244:x5_1 < (l0.length:Int):=zE (by first|(with_reducible assumption)|assumption)
         obtain ⟨ad244,A244_1,c244_1,e244,hx244_0,hx244_1,hl244_1,hi244_1⟩:=at_T47 HR0.out x5_1 p244 q244
         cases e244
         have HR244_1:=zF hi244_1
         have HC244_1:=zF hl244_1
         clear hi244_1 hl244_1
         replace p244:=eq_true p244
         replace q244:=eq_true q244
         have p245:0≤(x5_1:Int):=zE (by first|(with_reducible assumption)|assumption)
         have q245:x5_1 < (l1.length:Int):=zE (by first|(with_reducible assumption)|assumption)
         obtain ⟨ad245,A245_1,c245_1,e245,hx245_0,hx245_1,hl245_1,hi245_1⟩:=at_T47 HR1.out x5_1 p245 q245
         cases e245
         have HR245_1:=zF hi245_1
         have HC245_1:=zF hl245_1
         clear hi245_1 hl245_1
         replace p245:=eq_true p245
         replace q245:=eq_true q245
         have p246:0≤(x5_1:Int):=zE (by first|(with_reducible assumption)|assumption)
         have q246:x5_1 < (l0.length:Int):=zE (by first|(with_reducible assumption)|assumption)
         obtain ⟨ad246,A246_1,c246_1,e246,hx246_0,hx246_1,hl246_1,hi246_1⟩:=at_T47 HR0.out x5_1 p246 q246
         obtain rfl:ad244=ad246:=(by injection e246)
         have HR246_1:=zF hi246_1
         have HC246_1:=zF hl246_1
         clear hi246_1 hl246_1
         replace p246:=eq_true p246
         replace q246:=eq_true q246
         have ea_:=Option.some.inj (hx244_1.symm.trans hx246_1)
         injection ea_ with ea_ en_ ec_
         subst ea_
         subst ec_
         clear en_
         have p247:0≤(x5_1:Int):=zE (by first|(with_reducible assumption)|assumption)
         have q247:x5_1 < (l1.length:Int):=zE (by first|(with_reducible assumption)|assumption)
         obtain ⟨ad247,A247_1,c247_1,e247,hx247_0,hx247_1,hl247_1,hi247_1⟩:=at_T47 HR1.out x5_1 p247 q247
         obtain rfl:ad245=ad247:=(by injection e247)
         have HR247_1:=zF hi247_1
         have HC247_1:=zF hl247_1
         clear hi247_1 hl247_1
         replace p247:=eq_true p247
         replace q247:=eq_true q247
         have ea_:=Option.some.inj (hx245_1.symm.trans hx247_1)
         injection ea_ with ea_ en_ ec_
         subst ea_
         subst ec_
         clear en_
         go_wp2_with (first|(go_at_call 20;(with_reducible refine (cohousingref24_SameMoves.calls k1 _ _ ((rd_T47 l0 x5_1).f1) _ _ ((rd_T47 l1 x5_1).f1) true _ ?side1 ?side2 ?side3 ?side4 A8.out).mono ?_);(case side1=>repeat (first|exact HR246_1.out|(with_reducible refine Kd.C_alloc ?_ _)|(with_reducible refine Kd.C_drewN ?_ _)|(with_reducible refine Kd.C_drew ?_)));(case side2=>exact HC246_1.out);(case side3=>repeat (first|exact HR247_1.out|(with_reducible refine Kd.C_alloc ?_ _)|(with_reducible refine Kd.C_drewN ?_ _)|(with_reducible refine Kd.C_drew ?_)));(case side4=>exact HC247_1.out);rintro e w' ⟨rfl,⟨nd,rfl⟩⟩;(try first|exact ⟨rfl,_,World.drewN_drewN _ _ _⟩|exact ⟨rfl,_,Eq.trans (World.drewN_drewN _ _ _) (congrArg (World.drewN _) (Nat.add_assoc _ _ _))⟩)))
         repeat (go_quiet (first|(go_at_call 20;(with_reducible refine (cohousingref24_SameMoves.calls k1 _ _ ((rd_T47 l0 x5_1).f1) _ _ ((rd_T47 l1 x5_1).f1) true _ ?side1 ?side2 ?side3 ?side4 A8.out).mono ?_);(case side1=>repeat (first|exact HR246_1.out|(with_reducible refine Kd.C_alloc ?_ _)|(with_reducible refine Kd.C_drewN ?_ _)|(with_reducible refine Kd.C_drew ?_)));(case side2=>exact HC246_1.out);(case side3=>repeat (first|exact HR247_1.out|(with_reducible refine Kd.C_alloc ?_ _)|(with_reducible refine Kd.C_drewN ?_ _)|(with_reducible refine Kd.C_drew ?_)));(case side4=>exact HC247_1.out);rintro e w' ⟨rfl,⟨nd,rfl⟩⟩;(try first|exact ⟨rfl,_,World.drewN_drewN _ _ _⟩|exact ⟨rfl,_,Eq.trans (World.drewN_drewN _ _ _) (congrArg (World.drewN _) (Nat.add_assoc _ _ _))⟩)));try go_wp2_with (first|(go_at_call 20;(with_reducible refine (cohousingref24_SameMoves.calls k1 _ _ ((rd_T47 l0 x5_1).f1) _ _ ((rd_T47 l1 x5_1).f1) true _ ?side1 ?side2 ?side3 ?side4 A8.out).mono ?_);(case side1=>repeat (first|exact HR246_1.out|(with_reducible refine Kd.C_alloc ?_ _)|(with_reducible refine Kd.C_drewN ?_ _)|(with_reducible refine Kd.C_drew ?_)));(case side2=>exact HC246_1.out);(case side3=>repeat (first|exact HR247_1.out|(with_reducible refine Kd.C_alloc ?_ _)|(with_reducible refine Kd.C_drewN ?_ _)|(with_reducible refine Kd.C_drew ?_)));(case side4=>exact HC247_1.out);rintro e w' ⟨rfl,⟨nd,rfl⟩⟩;(try first|exact ⟨rfl,_,World.drewN_drewN _ _ _⟩|exact ⟨rfl,_,Eq.trans (World.drewN_drewN _ _ _) (congrArg (World.drewN _) (Nat.add_assoc _ _ _))⟩))))
         go_roundg k1
         case measure=>have:=HK1.out;omega
         case rel=>exact ⟨(wrap64 (x5_1 + 1)),(by first|rfl|(simp;done)|(simp [*];done)),H',⟨by have:=HK1.out;omega⟩,by repeat (first|exact Drawn0.refl _|apply Drawn0.step)⟩
        ·
         replace c9:=Bool.eq_false_iff.mpr c9
         subst c9
         have H1:(some false)=some r:=by rw [if_neg (show ¬ (false=true) by decide)] at H;exact H
         clear H
         have H:=H1
         clear H1
         obtain rfl:=Option.some.inj H
         have p244:0≤(x5_1:Int):=zE (by first|(with_reducible assumption)|assumption)
         have q244:x5_1 < (l0.length:Int):=zE (by first|(with_reducible assumption)|assumption)
         obtain ⟨ad244,A244_1,c244_1,e244,hx244_0,hx244_1,hl244_1,hi244_1⟩:=at_T47 HR0.out x5_1 p244 q244
         cases e244
         have HR244_1:=zF hi244_1
         have HC244_1:=zF hl244_1
         clear hi244_1 hl244_1
         replace p244:=eq_true p244
         replace q244:=eq_true q244
         have p245:0≤(x5_1:Int):=zE (by first|(with_reducible assumption)|assumption)
         have q245:x5_1 < (l1.length:Int):=zE (by first|(with_reducible assumption)|assumption)
         obtain ⟨ad245,A245_1,c245_1,e245,hx245_0,hx245_1,hl245_1,hi245_1⟩:=at_T47 HR1.out x5_1 p245 q245
         cases e245
         have HR245_1:=zF hi245_1
         have HC245_1:=zF hl245_1
         clear hi245_1 hl245_1
         replace p245:=eq_true p245
         replace q245:=eq_true q245
         have p246:0≤(x5_1:Int):=zE (by first|(with_reducible assumption)|assumption)
         have q246:x5_1 < (l0.length:Int):=zE (by first|(with_reducible assumption)|assumption)
         obtain ⟨ad246,A246_1,c246_1,e246,hx246_0,hx246_1,hl246_1,hi246_1⟩:=at_T47 HR0.out x5_1 p246 q246
         obtain rfl:ad244=ad246:=(by injection e246)
         have HR246_1:=zF hi246_1
         have HC246_1:=zF hl246_1
         clear hi246_1 hl246_1
         replace p246:=eq_true p246
         replace q246:=eq_true q246
         have ea_:=Option.some.inj (hx244_1.symm.trans hx246_1)
         injection ea_ with ea_ en_ ec_
         subst ea_
         subst ec_
         clear en_
         have p247:0≤(x5_1:Int):=zE (by first|(with_reducible assumption)|assumption)
         have q247:x5_1 < (l1.length:Int):=zE (by first|(with_reducible assumption)|assumption)
         obtain ⟨ad247,A247_1,c247_1,e247,hx247_0,hx247_1,hl247_1,hi247_1⟩:=at_T47 HR1.out x5_1 p247 q247
         obtain rfl:ad245=ad247:=(by injection e247)
         have HR247_1:=zF hi247_1
         have HC247_1:=zF hl247_1
         clear hi247_1 hl247_1
         replace p247:=eq_true p247
         replace q247:=eq_true q247
         have ea_:=Option.some.inj (hx245_1.symm.trans hx247_1)
         injection ea_ with ea_ en_ ec_
         subst ea_
         subst ec_
         clear en_
         go_wp2_with (first|(go_at_call 20;(with_reducible refine (cohousingref24_SameMoves.calls k1 _ _ ((rd_T47 l0 x5_1).f1) _ _ ((rd_T47 l1 x5_1).f1) false _ ?side1 ?side2 ?side3 ?side4 A8.out).mono ?_);(case side1=>repeat (first|exact HR246_1.out|(with_reducible refine Kd.C_alloc ?_ _)|(with_reducible refine Kd.C_drewN ?_ _)|(with_reducible refine Kd.C_drew ?_)));(case side2=>exact HC246_1.out);(case side3=>repeat (first|exact HR247_1.out|(with_reducible refine Kd.C_alloc ?_ _)|(with_reducible refine Kd.C_drewN ?_ _)|(with_reducible refine Kd.C_drew ?_)));(case side4=>exact HC247_1.out);rintro e w' ⟨rfl,⟨nd,rfl⟩⟩;(try first|exact ⟨rfl,_,World.drewN_drewN _ _ _⟩|exact ⟨rfl,_,Eq.trans (World.drewN_drewN _ _ _) (congrArg (World.drewN _) (Nat.add_assoc _ _ _))⟩)))
         repeat (go_quiet (first|(go_at_call 20;(with_reducible refine (cohousingref24_SameMoves.calls k1 _ _ ((rd_T47 l0 x5_1).f1) _ _ ((rd_T47 l1 x5_1).f1) false _ ?side1 ?side2 ?side3 ?side4 A8.out).mono ?_);(case side1=>repeat (first|exact HR246_1.out|(with_reducible refine Kd.C_alloc ?_ _)|(with_reducible refine Kd.C_drewN ?_ _)|(with_reducible refine Kd.C_drew ?_)));(case side2=>exact HC246_1.out);(case side3=>repeat (first|exact HR247_1.out|(with_reducible refine Kd.C_alloc ?_ _)|(with_reducible refine Kd.C_drewN ?_ _)|(with_reducible refine Kd.C_drew ?_)));(case side4=>exact HC247_1.out);rintro e w' ⟨rfl,⟨nd,rfl⟩⟩;(try first|exact ⟨rfl,_,World.drewN_drewN _ _ _⟩|exact ⟨rfl,_,Eq.trans (World.drewN_drewN _ _ _) (congrArg (World.drewN _) (Nat.add_assoc _ _ _))⟩)));try go_wp2_with (first|(go_at_call 20;(with_reducible refine (cohousingref24_SameMoves.calls k1 _ _ ((rd_T47 l0 x5_1).f1) _ _ ((rd_T47 l1 x5_1).f1) false _ ?side1 ?side2 ?side3 ?side4 A8.out).mono ?_);(case side1=>repeat (first|exact HR246_1.out|(with_reducible refine Kd.C_alloc ?_ _)|(with_reducible refine Kd.C_drewN ?_ _)|(with_reducible refine Kd.C_drew ?_)));(case side2=>exact HC246_1.out);(case side3=>repeat (first|exact HR247_1.out|(with_reducible refine Kd.C_alloc ?_ _)|(with_reducible refine Kd.C_drewN ?_ _)|(with_reducible refine Kd.C_drew ?_)));(case side4=>exact HC247_1.out);rintro e w' ⟨rfl,⟨nd,rfl⟩⟩;(try first|exact ⟨rfl,_,World.drewN_drewN _ _ _⟩|exact ⟨rfl,_,Eq.trans (World.drewN_drewN _ _ _) (congrArg (World.drewN _) (Nat.add_assoc _ _ _))⟩))))
         go_ret
         exact ⟨by first|rfl|(simp;done)|(simp [*];done),by repeat (first|exact Drawn0.refl _|apply Drawn0.step)⟩
      ·
       rw [if_neg c6] at H
       exact absurd H (by simp)
     ·
      rw [if_neg c5] at H
      exact absurd H (by simp)
    ·
     rw [if_neg c4] at H
     have c4b0:decide (x5_1 < (l0.length:Int))=false:=decide_eq_false c4
     clear c4
     obtain rfl:=Option.some.inj H
     go_wp2
     repeat (go_quiet (fail);try go_wp2)
     go_ret
     exact ⟨by first|rfl|(simp;done)|(simp [*];done),by repeat (first|exact Drawn0.refl _|apply Drawn0.step)⟩
 ·
  rw [if_neg c3] at H
  have c3b0:((l0.length:Int) == (l1.length:Int))=false:=beq_eq_false_iff_ne.mpr c3
  have c3b1:((l0.length:Int) != (l1.length:Int))=true:=bne_iff_ne.mpr c3
  have c3b2:(l0.length == l1.length)=false:=by first|simpa using c3|(simp at c3 ⊢;omega)
  obtain rfl:=Option.some.inj H
  go_enter Try.func21,Try.ntmps21
  go_wp2
  repeat (go_quiet (fail);try go_wp2)
  go_ret
  exact ⟨by first|rfl|(simp;done)|(simp [*];done),by repeat (first|exact Drawn0.refl _|apply Drawn0.step)⟩

end Go.Proofs.Ytjgnkhfgmpaljaa.P
namespace Go.Proofs.Ytjgnkhfgmpaljaa.P
open Go.RowKit Go.Proofs.YtjgnkhfgmpaljaaW.PrintWords Go.Proofs.YtjgnkhfgmpaljaaW.PrintLast Go.Proofs.YtjgnkhfgmpaljaaW.PrintMore
attribute [local go_sem] max2_int min2_int max_two min_two max_three min_three max_four min_four   -- for this text's walks alone
set_option linter.unusedVariables false
set_option linter.unusedSimpArgs false

def cohousingref24_best.l0:Nat→List Int→Int→List (S53)→List (S41)→List Int→List Bool→List Int→List Int→Option (Int)
 | 0,_,_,_,_,_,_,_,_=>none
 | k + 1,x5,x6,x141000,x141001,x141002,x141003,x141004,x141005=>if x6 < (x5.length:Int) then (if 0≤x6 then (if (rd x5 x6)=0 then (some (rd x5 x6)) else ((cohousingref23_In.f k x141005 (rd x5 x6)).bind fun t148=>(if t148 < 0 then (some (rd x5 x6)) else (cohousingref24_best.l0 k x5 (wrap64 (x6 + 1)) x141000 x141001 x141002 x141003 x141004 x141005)))) else (none)) else (some 0)
def cohousingref24_best.f (k:Nat) (l0_0:List (S53)) (l0_1:List (S41)) (l0_2:List Int) (l0_3:List Bool) (l0_4:List Int) (l0_5:List Int) (a1:Int):Option (Int):=if 0≤a1 then (if a1 < (l0_1.length:Int) then ((cohousingref23_Ranking.f k ((rd_T41 l0_1 a1).f0) ((rd_T41 l0_1 a1).f1) ((rd_T41 l0_1 a1).f2)).bind fun t142=>(cohousingref24_best.l0 k t142 0 l0_0 l0_1 l0_2 l0_3 l0_4 l0_5)) else (none)) else (none)
theorem cohousingref24_best.mono_l:∀ k,(∀ y0 y1 y2 y3 y4 y5 y6 y7,LeO (cohousingref24_best.l0 k y0 y1 y2 y3 y4 y5 y6 y7) (cohousingref24_best.l0 (k + 1) y0 y1 y2 y3 y4 y5 y6 y7))
 | 0=>fun _ _ _ _ _ _ _ _ r h=>by simp [cohousingref24_best.l0] at h
 | k + 1=>by
  have ih0:=cohousingref24_best.mono_l k
  ·
   intro y0 y1 y2 y3 y4 y5 y6 y7
   unfold cohousingref24_best.l0
   repeat' first
   | (with_reducible exact ih0 _ _ _ _ _ _ _ _)
   | (with_reducible exact cohousingref23_In.mono _ _ _)
   | (with_reducible exact cohousingref23_Ranking.mono _ _ _ _)
   | (with_reducible exact LeO.refl _)
   | (with_reducible exact LeO.none _)
   | (with_reducible refine LeO.ite ?_ ?_)
   | (with_reducible refine LeO.bind ?_ (fun _=>?_))
   | exact ih0 _ _ _ _ _ _ _ _
   | exact cohousingref23_In.mono _ _ _
   | exact cohousingref23_Ranking.mono _ _ _ _
   | exact LeO.none _
   | refine LeO.ite ?_ ?_
   | refine LeO.bind ?_ (fun _=>?_)
theorem cohousingref24_best.mono:∀ a0 a1 a2 a3 a4 a5 a6 k,LeO (cohousingref24_best.f k a0 a1 a2 a3 a4 a5 a6) (cohousingref24_best.f (k + 1) a0 a1 a2 a3 a4 a5 a6):=by
 intro a0 a1 a2 a3 a4 a5 a6 k
 have ih0:=cohousingref24_best.mono_l k
 unfold cohousingref24_best.f
 repeat' first
   | (with_reducible exact ih0 _ _ _ _ _ _ _ _)
   | (with_reducible exact cohousingref23_In.mono _ _ _)
   | (with_reducible exact cohousingref23_Ranking.mono _ _ _ _)
   | (with_reducible exact LeO.refl _)
   | (with_reducible exact LeO.none _)
   | (with_reducible refine LeO.ite ?_ ?_)
   | (with_reducible refine LeO.bind ?_ (fun _=>?_))
   | exact ih0 _ _ _ _ _ _ _ _
   | exact cohousingref23_In.mono _ _ _
   | exact cohousingref23_Ranking.mono _ _ _ _
   | exact LeO.none _
   | refine LeO.ite ?_ ?_
   | refine LeO.bind ?_ (fun _=>?_)
set_option maxHeartbeats 8000000 in
set_option maxRecDepth 100000 in
theorem cohousingref24_best.calls (k:Nat) (A0_0:Option Addr) (c0_0:Nat) (l0_0:List (S53)) (A0_1:Option Addr) (c0_1:Nat) (l0_1:List (S41)) (A0_2:Option Addr) (c0_2:Nat) (l0_2:List Int) (A0_3:Option Addr) (c0_3:Nat) (l0_3:List Bool) (A0_4:Option Addr) (c0_4:Nat) (l0_4:List Int) (A0_5:Option Addr) (c0_5:Nat) (l0_5:List Int) (a1:Int) (r:Int) (w:World) (hr0_0:Kd.C k53 w A0_0 l0_0.length l0_0) (hc0_0:l0_0.length≤c0_0) (hr0_1:Kd.C k41 w A0_1 l0_1.length l0_1) (hc0_1:l0_1.length≤c0_1) (hr0_2:Kd.C (Kd.int .i64) w A0_2 l0_2.length l0_2) (hc0_2:l0_2.length≤c0_2) (hr0_3:Kd.C Kd.bool w A0_3 l0_3.length l0_3) (hc0_3:l0_3.length≤c0_3) (hr0_4:Kd.C (Kd.int .i64) w A0_4 l0_4.length l0_4) (hc0_4:l0_4.length≤c0_4) (hr0_5:Kd.C (Kd.int .i64) w A0_5 l0_5.length l0_5) (hc0_5:l0_5.length≤c0_5) (h:cohousingref24_best.f k l0_0 l0_1 l0_2 l0_3 l0_4 l0_5 a1=some r) :
  Calls Try.prog 52 #[.agg #[.slice A0_0 l0_0.length c0_0,.slice A0_1 l0_1.length c0_1,.slice A0_2 l0_2.length c0_2,.slice A0_3 l0_3.length c0_3,.slice A0_4 l0_4.length c0_4,.slice A0_5 l0_5.length c0_5],.int .i64 a1] w fun e w'=>e = .returned (.int .i64 r)∧Below w.heap.size w w':=by
 have hu81:=Try.underlying81
 have hu41:=Try.underlying41
 have HR0_0:=zF hr0_0
 have HC0_0:=zF hc0_0
 clear hr0_0 hc0_0
 have HR0_1:=zF hr0_1
 have HC0_1:=zF hc0_1
 clear hr0_1 hc0_1
 have HR0_2:=zF hr0_2
 have HC0_2:=zF hc0_2
 clear hr0_2 hc0_2
 have HR0_3:=zF hr0_3
 have HC0_3:=zF hc0_3
 clear hr0_3 hc0_3
 have HR0_4:=zF hr0_4
 have HC0_4:=zF hc0_4
 clear hr0_4 hc0_4
 have HR0_5:=zF hr0_5
 have HC0_5:=zF hc0_5
 clear hr0_5 hc0_5
 have HB:=zF (Below.refl w.heap.size w)
 have H:(if 0≤a1 then (if a1 < (l0_1.length:Int) then ((cohousingref23_Ranking.f k ((rd_T41 l0_1 a1).f0) ((rd_T41 l0_1 a1).f1) ((rd_T41 l0_1 a1).f2)).bind fun t142=>(cohousingref24_best.l0 k t142 0 l0_0 l0_1 l0_2 l0_3 l0_4 l0_5)) else (none)) else (none))=some r:=h
 clear h
 by_cases c3:0≤a1
 ·
  rw [if_pos c3] at H
  have c3b0:decide (0≤a1)=true:=decide_eq_true c3
  clear c3
  by_cases c4:a1 < (l0_1.length:Int)
  ·
   rw [if_pos c4] at H
   have c4b0:decide (a1 < (l0_1.length:Int))=true:=decide_eq_true c4
   clear c4
   replace H:=Option.bind_eq_some_iff.mp H
   obtain ⟨t142,A50,H⟩:=H
   replace H:(cohousingref24_best.l0 k t142 0 l0_0 l0_1 l0_2 l0_3 l0_4 l0_5)=some r:=H
   have A5:=zF A50
   clear A50
   have H':=zF H
   clear H
   go_enter Try.func52,Try.ntmps52
   go_wp2_with (first|((with_reducible refine gate_dst (N:=2) rfl ?_);refine box_event ?hg (N:=2) ?hd (cs:=#[.slice A0_0 l0_0.length c0_0,.slice A0_1 l0_1.length c0_1,.slice A0_2 l0_2.length c0_2,.slice A0_3 l0_3.length c0_3,.slice A0_4 l0_4.length c0_4,.slice A0_5 l0_5.length c0_5]) (t:=81) ?hr ?_;(case hd=>rfl);(case hg=>rfl);(case hr=>first|(go_simp;done)|(go_simp;rfl));intro gb140 hg w6 hbox hb;have n0_:=zF (below_step (by repeat (first|(with_reducible first|exact HB.out|apply below_alloc|apply pw_below_drewN|apply below_drew1)|exact HB.out)) hb);have n1_:=zF (hbox);have n2_:=zF ((by rw [hg];exact (below_size (by repeat (first|(with_reducible first|exact HB.out|apply below_alloc|apply pw_below_drewN|apply below_drew1)|exact HB.out))):w.heap.size≤gb140));have n3_:=zF ((by rw [hg];exact (below_size (by repeat (first|(with_reducible first|exact HB.out|apply below_alloc|apply pw_below_drewN|apply below_drew1)|exact HB.out))):w.heap.size≤gb140));clear HB;have HB:=n0_;have BK140:=n1_;have GW140:=n2_;have GE140:=n3_;clear n0_ n1_ n2_ n3_;clear hb hbox hg;have hcz7_0:w6.cell? ⟨gb140,0,none⟩=some (.slice A0_0 l0_0.length c0_0):=(blk_cell BK140.out 0).trans rfl;have hcz7_1:w6.cell? ⟨gb140,1,none⟩=some (.slice A0_1 l0_1.length c0_1):=(blk_cell BK140.out 1).trans rfl;have hcz7_2:w6.cell? ⟨gb140,2,none⟩=some (.slice A0_2 l0_2.length c0_2):=(blk_cell BK140.out 2).trans rfl;have hcz7_3:w6.cell? ⟨gb140,3,none⟩=some (.slice A0_3 l0_3.length c0_3):=(blk_cell BK140.out 3).trans rfl;have hcz7_4:w6.cell? ⟨gb140,4,none⟩=some (.slice A0_4 l0_4.length c0_4):=(blk_cell BK140.out 4).trans rfl;have hcz7_5:w6.cell? ⟨gb140,5,none⟩=some (.slice A0_5 l0_5.length c0_5):=(blk_cell BK140.out 5).trans rfl;have hfz7_0:=blk_frozen BK140.out 0;have hfz7_1:=blk_frozen BK140.out 1;have hfz7_2:=blk_frozen BK140.out 2;have hfz7_3:=blk_frozen BK140.out 3;have hfz7_4:=blk_frozen BK140.out 4;have hfz7_5:=blk_frozen BK140.out 5;have p141:0≤(a1:Int):=zE (by first|(with_reducible assumption)|assumption);have q141:a1 < (l0_1.length:Int):=zE (by first|(with_reducible assumption)|assumption);obtain ⟨ad141,A141_2,c141_2,e141,hx141_0,hx141_1,hx141_2,hl141_2,hi141_2⟩:=at_T41 HR0_1.out a1 p141 q141;cases e141;replace hx141_0:=(HB.out.cell (World.block_lt_of_cell? w _ hx141_0)).trans hx141_0;replace hx141_1:=(HB.out.cell (World.block_lt_of_cell? w _ hx141_1)).trans hx141_1;replace hx141_2:=(HB.out.cell (World.block_lt_of_cell? w _ hx141_2)).trans hx141_2;have HR141_2:=zF hi141_2;have HC141_2:=zF hl141_2;clear hi141_2 hl141_2;replace p141:=eq_true p141;replace q141:=eq_true q141)|(go_at_call 23;(with_reducible refine (cohousingref23_Ranking.calls k ((rd_T41 l0_1 a1).f0) ((rd_T41 l0_1 a1).f1) _ _ ((rd_T41 l0_1 a1).f2) t142 _ ?side1 ?side2 A5.out).mono ?_);(case side1=>repeat (first|exact (Kd.C_below HR141_2.out HB.out)|(with_reducible refine Kd.C_alloc ?_ _)|(with_reducible refine Kd.C_drewN ?_ _)|(with_reducible refine Kd.C_drew ?_)));(case side2=>exact HC141_2.out);rintro e w8 ⟨v143,rfl,ho0,hb⟩;have n0_:=zF (Kd.R_lower ho0 (below_size (by repeat (first|(with_reducible first|exact HB.out|apply below_alloc|apply pw_below_drewN|apply below_drew1|refine below_set ?_ GE140.out)|exact HB.out))));have n1_:=zF (blk_below (g:=gb140) (o:=.cells #[.slice A0_0 l0_0.length c0_0,.slice (some ad141) l0_1.length c0_1,.slice A0_2 l0_2.length c0_2,.slice A0_3 l0_3.length c0_3,.slice A0_4 l0_4.length c0_4,.slice A0_5 l0_5.length c0_5] 81 (0,0)) (by (with_reducible repeat (first|refine blk_drewN ?_ _|refine blk_drew ?_|refine blk_alloc ?_ _));exact BK140.out) hb);have n2_:=zF (below_step (by repeat (first|(with_reducible first|exact HB.out|apply below_alloc|apply pw_below_drewN|apply below_drew1|refine below_set ?_ GE140.out)|exact HB.out)) hb);clear BK140;clear HB;have HO144:=n0_;have BK140:=n1_;have HB:=n2_;clear n0_ n1_ n2_;(try clear hb);(try clear hb2);(try clear hk);(try clear hi);(try clear ho0)))
   repeat (go_quiet (first|((with_reducible refine gate_dst (N:=2) rfl ?_);refine box_event ?hg (N:=2) ?hd (cs:=#[.slice A0_0 l0_0.length c0_0,.slice A0_1 l0_1.length c0_1,.slice A0_2 l0_2.length c0_2,.slice A0_3 l0_3.length c0_3,.slice A0_4 l0_4.length c0_4,.slice A0_5 l0_5.length c0_5]) (t:=81) ?hr ?_;(case hd=>rfl);(case hg=>rfl);(case hr=>first|(go_simp;done)|(go_simp;rfl));intro gb140 hg w6 hbox hb;have n0_:=zF (below_step (by repeat (first|(with_reducible first|exact HB.out|apply below_alloc|apply pw_below_drewN|apply below_drew1)|exact HB.out)) hb);have n1_:=zF (hbox);have n2_:=zF ((by rw [hg];exact (below_size (by repeat (first|(with_reducible first|exact HB.out|apply below_alloc|apply pw_below_drewN|apply below_drew1)|exact HB.out))):w.heap.size≤gb140));have n3_:=zF ((by rw [hg];exact (below_size (by repeat (first|(with_reducible first|exact HB.out|apply below_alloc|apply pw_below_drewN|apply below_drew1)|exact HB.out))):w.heap.size≤gb140));clear HB;have HB:=n0_;have BK140:=n1_;have GW140:=n2_;have GE140:=n3_;clear n0_ n1_ n2_ n3_;clear hb hbox hg;have hcz7_0:w6.cell? ⟨gb140,0,none⟩=some (.slice A0_0 l0_0.length c0_0):=(blk_cell BK140.out 0).trans rfl;have hcz7_1:w6.cell? ⟨gb140,1,none⟩=some (.slice A0_1 l0_1.length c0_1):=(blk_cell BK140.out 1).trans rfl;have hcz7_2:w6.cell? ⟨gb140,2,none⟩=some (.slice A0_2 l0_2.length c0_2):=(blk_cell BK140.out 2).trans rfl;have hcz7_3:w6.cell? ⟨gb140,3,none⟩=some (.slice A0_3 l0_3.length c0_3):=(blk_cell BK140.out 3).trans rfl;have hcz7_4:w6.cell? ⟨gb140,4,none⟩=some (.slice A0_4 l0_4.length c0_4):=(blk_cell BK140.out 4).trans rfl;have hcz7_5:w6.cell? ⟨gb140,5,none⟩=some (.slice A0_5 l0_5.length c0_5):=(blk_cell BK140.out 5).trans rfl;have hfz7_0:=blk_frozen BK140.out 0;have hfz7_1:=blk_frozen BK140.out 1;have hfz7_2:=blk_frozen BK140.out 2;have hfz7_3:=blk_frozen BK140.out 3;have hfz7_4:=blk_frozen BK140.out 4;have hfz7_5:=blk_frozen BK140.out 5;have p141:0≤(a1:Int):=zE (by first|(with_reducible assumption)|assumption);have q141:a1 < (l0_1.length:Int):=zE (by first|(with_reducible assumption)|assumption);obtain ⟨ad141,A141_2,c141_2,e141,hx141_0,hx141_1,hx141_2,hl141_2,hi141_2⟩:=at_T41 HR0_1.out a1 p141 q141;cases e141;replace hx141_0:=(HB.out.cell (World.block_lt_of_cell? w _ hx141_0)).trans hx141_0;replace hx141_1:=(HB.out.cell (World.block_lt_of_cell? w _ hx141_1)).trans hx141_1;replace hx141_2:=(HB.out.cell (World.block_lt_of_cell? w _ hx141_2)).trans hx141_2;have HR141_2:=zF hi141_2;have HC141_2:=zF hl141_2;clear hi141_2 hl141_2;replace p141:=eq_true p141;replace q141:=eq_true q141)|(go_at_call 23;(with_reducible refine (cohousingref23_Ranking.calls k ((rd_T41 l0_1 a1).f0) ((rd_T41 l0_1 a1).f1) _ _ ((rd_T41 l0_1 a1).f2) t142 _ ?side1 ?side2 A5.out).mono ?_);(case side1=>repeat (first|exact (Kd.C_below HR141_2.out HB.out)|(with_reducible refine Kd.C_alloc ?_ _)|(with_reducible refine Kd.C_drewN ?_ _)|(with_reducible refine Kd.C_drew ?_)));(case side2=>exact HC141_2.out);rintro e w8 ⟨v143,rfl,ho0,hb⟩;have n0_:=zF (Kd.R_lower ho0 (below_size (by repeat (first|(with_reducible first|exact HB.out|apply below_alloc|apply pw_below_drewN|apply below_drew1|refine below_set ?_ GE140.out)|exact HB.out))));have n1_:=zF (blk_below (g:=gb140) (o:=.cells #[.slice A0_0 l0_0.length c0_0,.slice (some ad141) l0_1.length c0_1,.slice A0_2 l0_2.length c0_2,.slice A0_3 l0_3.length c0_3,.slice A0_4 l0_4.length c0_4,.slice A0_5 l0_5.length c0_5] 81 (0,0)) (by (with_reducible repeat (first|refine blk_drewN ?_ _|refine blk_drew ?_|refine blk_alloc ?_ _));exact BK140.out) hb);have n2_:=zF (below_step (by repeat (first|(with_reducible first|exact HB.out|apply below_alloc|apply pw_below_drewN|apply below_drew1|refine below_set ?_ GE140.out)|exact HB.out)) hb);clear BK140;clear HB;have HO144:=n0_;have BK140:=n1_;have HB:=n2_;clear n0_ n1_ n2_;(try clear hb);(try clear hb2);(try clear hk);(try clear hi);(try clear ho0)));try go_wp2_with (first|((with_reducible refine gate_dst (N:=2) rfl ?_);refine box_event ?hg (N:=2) ?hd (cs:=#[.slice A0_0 l0_0.length c0_0,.slice A0_1 l0_1.length c0_1,.slice A0_2 l0_2.length c0_2,.slice A0_3 l0_3.length c0_3,.slice A0_4 l0_4.length c0_4,.slice A0_5 l0_5.length c0_5]) (t:=81) ?hr ?_;(case hd=>rfl);(case hg=>rfl);(case hr=>first|(go_simp;done)|(go_simp;rfl));intro gb140 hg w6 hbox hb;have n0_:=zF (below_step (by repeat (first|(with_reducible first|exact HB.out|apply below_alloc|apply pw_below_drewN|apply below_drew1)|exact HB.out)) hb);have n1_:=zF (hbox);have n2_:=zF ((by rw [hg];exact (below_size (by repeat (first|(with_reducible first|exact HB.out|apply below_alloc|apply pw_below_drewN|apply below_drew1)|exact HB.out))):w.heap.size≤gb140));have n3_:=zF ((by rw [hg];exact (below_size (by repeat (first|(with_reducible first|exact HB.out|apply below_alloc|apply pw_below_drewN|apply below_drew1)|exact HB.out))):w.heap.size≤gb140));clear HB;have HB:=n0_;have BK140:=n1_;have GW140:=n2_;have GE140:=n3_;clear n0_ n1_ n2_ n3_;clear hb hbox hg;have hcz7_0:w6.cell? ⟨gb140,0,none⟩=some (.slice A0_0 l0_0.length c0_0):=(blk_cell BK140.out 0).trans rfl;have hcz7_1:w6.cell? ⟨gb140,1,none⟩=some (.slice A0_1 l0_1.length c0_1):=(blk_cell BK140.out 1).trans rfl;have hcz7_2:w6.cell? ⟨gb140,2,none⟩=some (.slice A0_2 l0_2.length c0_2):=(blk_cell BK140.out 2).trans rfl;have hcz7_3:w6.cell? ⟨gb140,3,none⟩=some (.slice A0_3 l0_3.length c0_3):=(blk_cell BK140.out 3).trans rfl;have hcz7_4:w6.cell? ⟨gb140,4,none⟩=some (.slice A0_4 l0_4.length c0_4):=(blk_cell BK140.out 4).trans rfl;have hcz7_5:w6.cell? ⟨gb140,5,none⟩=some (.slice A0_5 l0_5.length c0_5):=(blk_cell BK140.out 5).trans rfl;have hfz7_0:=blk_frozen BK140.out 0;have hfz7_1:=blk_frozen BK140.out 1;have hfz7_2:=blk_frozen BK140.out 2;have hfz7_3:=blk_frozen BK140.out 3;have hfz7_4:=blk_frozen BK140.out 4;have hfz7_5:=blk_frozen BK140.out 5;have p141:0≤(a1:Int):=zE (by first|(with_reducible assumption)|assumption);have q141:a1 < (l0_1.length:Int):=zE (by first|(with_reducible assumption)|assumption);obtain ⟨ad141,A141_2,c141_2,e141,hx141_0,hx141_1,hx141_2,hl141_2,hi141_2⟩:=at_T41 HR0_1.out a1 p141 q141;cases e141;replace hx141_0:=(HB.out.cell (World.block_lt_of_cell? w _ hx141_0)).trans hx141_0;replace hx141_1:=(HB.out.cell (World.block_lt_of_cell? w _ hx141_1)).trans hx141_1;replace hx141_2:=(HB.out.cell (World.block_lt_of_cell? w _ hx141_2)).trans hx141_2;have HR141_2:=zF hi141_2;have HC141_2:=zF hl141_2;clear hi141_2 hl141_2;replace p141:=eq_true p141;replace q141:=eq_true q141)|(go_at_call 23;(with_reducible refine (cohousingref23_Ranking.calls k ((rd_T41 l0_1 a1).f0) ((rd_T41 l0_1 a1).f1) _ _ ((rd_T41 l0_1 a1).f2) t142 _ ?side1 ?side2 A5.out).mono ?_);(case side1=>repeat (first|exact (Kd.C_below HR141_2.out HB.out)|(with_reducible refine Kd.C_alloc ?_ _)|(with_reducible refine Kd.C_drewN ?_ _)|(with_reducible refine Kd.C_drew ?_)));(case side2=>exact HC141_2.out);rintro e w8 ⟨v143,rfl,ho0,hb⟩;have n0_:=zF (Kd.R_lower ho0 (below_size (by repeat (first|(with_reducible first|exact HB.out|apply below_alloc|apply pw_below_drewN|apply below_drew1|refine below_set ?_ GE140.out)|exact HB.out))));have n1_:=zF (blk_below (g:=gb140) (o:=.cells #[.slice A0_0 l0_0.length c0_0,.slice (some ad141) l0_1.length c0_1,.slice A0_2 l0_2.length c0_2,.slice A0_3 l0_3.length c0_3,.slice A0_4 l0_4.length c0_4,.slice A0_5 l0_5.length c0_5] 81 (0,0)) (by (with_reducible repeat (first|refine blk_drewN ?_ _|refine blk_drew ?_|refine blk_alloc ?_ _));exact BK140.out) hb);have n2_:=zF (below_step (by repeat (first|(with_reducible first|exact HB.out|apply below_alloc|apply pw_below_drewN|apply below_drew1|refine below_set ?_ GE140.out)|exact HB.out)) hb);clear BK140;clear HB;have HO144:=n0_;have BK140:=n1_;have HB:=n2_;clear n0_ n1_ n2_;(try clear hb);(try clear hb2);(try clear hk);(try clear hi);(try clear ho0))))
   go_loopg [6] k (fun kq v6 w'=>∃ (x6_1:Int),v6 = .int .i64 x6_1∧Aside0 (cohousingref24_best.l0 kq t142 x6_1 l0_0 l0_1 l0_2 l0_3 l0_4 l0_5=some r)∧Aside0 (kq≤k)∧Aside0 (Kd.R (Kd.int .i64) 3 w' w.heap.size (fun _=>True) v143 t142)∧Aside0 (w'.heap[gb140]? = some (.cells #[(.slice A0_0 l0_0.length c0_0),(.slice (some ad141) l0_1.length c0_1),(.slice A0_2 l0_2.length c0_2),(.slice A0_3 l0_3.length c0_3),(.slice A0_4 l0_4.length c0_4),(.slice A0_5 l0_5.length c0_5)] 81 (0,0)))∧Aside0 (Below w.heap.size w w'))
   case atStart=>exact ⟨(0),(by first|rfl|(simp;done)|(simp [*];done)),H',⟨Nat.le_refl _⟩,⟨by (with_reducible repeat (first|apply Kd.R_alloc|apply Kd.R_drewN|apply Kd.R_drew));exact HO144.out⟩,⟨by (with_reducible repeat (first|refine blk_drewN ?_ _|refine blk_drew ?_|refine blk_alloc ?_ _));exact BK140.out⟩,⟨by repeat (first|(with_reducible first|exact HB.out|apply below_alloc|apply pw_below_drewN|apply below_drew1|refine below_set ?_ GE140.out)|exact HB.out)⟩⟩
   case round =>
    clear H'
    try clear c1
    try clear p1
    try clear q1
    try clear hx1
    try clear p2
    try clear c3
    try clear c3b0
    try clear c4
    try clear c4b0
    try clear c5
    try clear hcz7_0
    try clear hcz7_1
    try clear hcz7_2
    try clear hcz7_3
    try clear hcz7_4
    try clear hcz7_5
    try clear hfz7_0
    try clear hfz7_1
    try clear hfz7_2
    try clear hfz7_3
    try clear hfz7_4
    try clear hfz7_5
    try clear hx141_0
    try clear hx141_1
    try clear hx141_2
    try clear p141
    try clear q141
    obtain ⟨x6_1,rfl,HA,HK1,HO_5,BK140,HB⟩:=hrel
    cases gk with
    | zero=>exact absurd HA.out (by simp [cohousingref24_best.l0])
    | succ k1 =>
     have H:=HA.out
     clear HA
     simp only [cohousingref24_best.l0] at H
     by_cases c9:x6_1 < (t142.length:Int)
     ·
      rw [if_pos c9] at H
      have c9b0:decide (x6_1 < (t142.length:Int))=true:=decide_eq_true c9
      clear c9
      by_cases c10:0≤x6_1
      ·
       rw [if_pos c10] at H
       have c10b0:decide (0≤x6_1)=true:=decide_eq_true c10
       clear c10
       by_cases c11:(rd t142 x6_1)=0
       ·
        rw [if_pos c11] at H
        have c11b0:((rd t142 x6_1) == 0)=true:=beq_iff_eq.mpr c11
        have c11b1:((rd t142 x6_1) != 0)=false:=bne_eq_false_iff_eq.mpr c11
        clear c11
        obtain rfl:=Option.some.inj H
        obtain ⟨Ao12,co12,eo12⟩:=Kd.R_slice HO_5.out
        subst eo12
        have p145:0≤(x6_1:Int):=zE (by first|(with_reducible assumption)|assumption)
        have q145:x6_1 < (t142.length:Int):=zE (by first|(with_reducible assumption)|assumption)
        obtain ⟨ad145,e145,hx145_0⟩:=Kd.at_int (Kd.R_reads' HO_5.out).2.2 x6_1 p145 q145
        cases e145
        replace p145:=eq_true p145
        replace q145:=eq_true q145
        have p146:0≤(x6_1:Int):=zE (by first|(with_reducible assumption)|assumption)
        have q146:x6_1 < (t142.length:Int):=zE (by first|(with_reducible assumption)|assumption)
        obtain ⟨ad146,e146,hx146_0⟩:=Kd.at_int (Kd.R_reads' HO_5.out).2.2 x6_1 p146 q146
        obtain rfl:ad145=ad146:=(by injection e146)
        replace p146:=eq_true p146
        replace q146:=eq_true q146
        go_wp2
        repeat (go_quiet (fail);try go_wp2)
        go_ret
        exact ⟨by first|rfl|(simp [errW_none,errW_some] <;> rfl)|(simp [*,errW_none,errW_some] <;> rfl),by repeat (first|(with_reducible first|exact HB.out|apply below_alloc|apply pw_below_drewN|apply below_drew1|refine below_set ?_ GE140.out)|exact HB.out)⟩
       ·
        rw [if_neg c11] at H
        have c11b0:((rd t142 x6_1) == 0)=false:=beq_eq_false_iff_ne.mpr c11
        have c11b1:((rd t142 x6_1) != 0)=true:=bne_iff_ne.mpr c11
        replace H:=Option.bind_eq_some_iff.mp H
        obtain ⟨t148,A130,H⟩:=H
        replace H:(if t148 < 0 then (some (rd t142 x6_1)) else (cohousingref24_best.l0 k1 t142 (wrap64 (x6_1 + 1)) l0_0 l0_1 l0_2 l0_3 l0_4 l0_5))=some r:=H
        have A13:=zF A130
        clear A130
        by_cases c14:t148 < 0
        ·
         rw [if_pos c14] at H
         have c14b0:decide (t148 < 0)=true:=decide_eq_true c14
         clear c14
         obtain rfl:=Option.some.inj H
         obtain ⟨Ao15,co15,eo15⟩:=Kd.R_slice HO_5.out
         subst eo15
         have p145:0≤(x6_1:Int):=zE (by first|(with_reducible assumption)|assumption)
         have q145:x6_1 < (t142.length:Int):=zE (by first|(with_reducible assumption)|assumption)
         obtain ⟨ad145,e145,hx145_0⟩:=Kd.at_int (Kd.R_reads' HO_5.out).2.2 x6_1 p145 q145
         cases e145
         replace p145:=eq_true p145
         replace q145:=eq_true q145
         have hcz16_0:wr.cell? ⟨gb140,0,none⟩=some (.slice A0_0 l0_0.length c0_0):=(blk_cell BK140.out 0).trans rfl
         have hcz16_1:wr.cell? ⟨gb140,1,none⟩=some (.slice (some ad141) l0_1.length c0_1):=(blk_cell BK140.out 1).trans rfl
         have hcz16_2:wr.cell? ⟨gb140,2,none⟩=some (.slice A0_2 l0_2.length c0_2):=(blk_cell BK140.out 2).trans rfl
         have hcz16_3:wr.cell? ⟨gb140,3,none⟩=some (.slice A0_3 l0_3.length c0_3):=(blk_cell BK140.out 3).trans rfl
         have hcz16_4:wr.cell? ⟨gb140,4,none⟩=some (.slice A0_4 l0_4.length c0_4):=(blk_cell BK140.out 4).trans rfl
         have hcz16_5:wr.cell? ⟨gb140,5,none⟩=some (.slice A0_5 l0_5.length c0_5):=(blk_cell BK140.out 5).trans rfl
         have hfz16_0:=blk_frozen BK140.out 0
         have hfz16_1:=blk_frozen BK140.out 1
         have hfz16_2:=blk_frozen BK140.out 2
         have hfz16_3:=blk_frozen BK140.out 3
         have hfz16_4:=blk_frozen BK140.out 4
         have hfz16_5:=blk_frozen BK140.out 5
         have p147:0≤(x6_1:Int):=zE (by first|(with_reducible assumption)|assumption)
         have q147:x6_1 < (t142.length:Int):=zE (by first|(with_reducible assumption)|assumption)
         obtain ⟨ad147,e147,hx147_0⟩:=Kd.at_int (Kd.R_reads' HO_5.out).2.2 x6_1 p147 q147
         obtain rfl:ad145=ad147:=(by injection e147)
         replace p147:=eq_true p147
         replace q147:=eq_true q147
         go_wp2_with (first|(go_at_call 24;(with_reducible refine (cohousingref23_In.calls k1 _ _ l0_5 (rd t142 x6_1) t148 _ ?side1 ?side2 A13.out).mono ?_);(case side1=>repeat (first|exact (Kd.C_below HR0_5.out HB.out)|(with_reducible refine Kd.C_alloc ?_ _)|(with_reducible refine Kd.C_drewN ?_ _)|(with_reducible refine Kd.C_drew ?_)));(case side2=>exact HC0_5.out);rintro e w' ⟨rfl,⟨nd,rfl⟩⟩;(try first|exact ⟨rfl,_,World.drewN_drewN _ _ _⟩|exact ⟨rfl,_,Eq.trans (World.drewN_drewN _ _ _) (congrArg (World.drewN _) (Nat.add_assoc _ _ _))⟩);have p149:0≤(x6_1:Int):=zE (by first|(with_reducible assumption)|assumption);have q149:x6_1 < (t142.length:Int):=zE (by first|(with_reducible assumption)|assumption);obtain ⟨ad149,e149,hx149_0⟩:=Kd.at_int (Kd.R_reads' HO_5.out).2.2 x6_1 p149 q149;obtain rfl:ad145=ad149:=(by injection e149);replace p149:=eq_true p149;replace q149:=eq_true q149))
         repeat (go_quiet (first|(go_at_call 24;(with_reducible refine (cohousingref23_In.calls k1 _ _ l0_5 (rd t142 x6_1) t148 _ ?side1 ?side2 A13.out).mono ?_);(case side1=>repeat (first|exact (Kd.C_below HR0_5.out HB.out)|(with_reducible refine Kd.C_alloc ?_ _)|(with_reducible refine Kd.C_drewN ?_ _)|(with_reducible refine Kd.C_drew ?_)));(case side2=>exact HC0_5.out);rintro e w' ⟨rfl,⟨nd,rfl⟩⟩;(try first|exact ⟨rfl,_,World.drewN_drewN _ _ _⟩|exact ⟨rfl,_,Eq.trans (World.drewN_drewN _ _ _) (congrArg (World.drewN _) (Nat.add_assoc _ _ _))⟩);have p149:0≤(x6_1:Int):=zE (by first|(with_reducible assumption)|assumption);have q149:x6_1 < (t142.length:Int):=zE (by first|(with_reducible assumption)|assumption);obtain ⟨ad149,e149,hx149_0⟩:=Kd.at_int (Kd.R_reads' HO_5.out).2.2 x6_1 p149 q149;obtain rfl:ad145=ad149:=(by injection e149);replace p149:=eq_true p149;replace q149:=eq_true q149));try go_wp2_with (first|(go_at_call 24;(with_reducible refine (cohousingref23_In.calls k1 _ _ l0_5 (rd t142 x6_1) t148 _ ?side1 ?side2 A13.out).mono ?_);(case side1=>repeat (first|exact (Kd.C_below HR0_5.out HB.out)|(with_reducible refine Kd.C_alloc ?_ _)|(with_reducible refine Kd.C_drewN ?_ _)|(with_reducible refine Kd.C_drew ?_)));(case side2=>exact HC0_5.out);rintro e w' ⟨rfl,⟨nd,rfl⟩⟩;(try first|exact ⟨rfl,_,World.drewN_drewN _ _ _⟩|exact ⟨rfl,_,Eq.trans (World.drewN_drewN _ _ _) (congrArg (World.drewN _) (Nat.add_assoc _ _ _))⟩);have p149:0≤(x6_1:Int):=zE (by first|(with_reducible assumption)|assumption);have q149:x6_1 < (t142.length:Int):=zE (by first|(with_reducible assumption)|assumption);obtain ⟨ad149,e149,hx149_0⟩:=Kd.at_int (Kd.R_reads' HO_5.out).2.2 x6_1 p149 q149;obtain rfl:ad145=ad149:=(by injection e149);replace p149:=eq_true p149;replace q149:=eq_true q149)))
         go_ret
         exact ⟨by first|rfl|(simp [errW_none,errW_some] <;> rfl)|(simp [*,errW_none,errW_some] <;> rfl),by repeat (first|(with_reducible first|exact HB.out|apply below_alloc|apply pw_below_drewN|apply below_drew1|refine below_set ?_ GE140.out)|exact HB.out)⟩
        ·
         rw [if_neg c14] at H
         have c14b0:decide (t148 < 0)=false:=decide_eq_false c14
         clear c14
         have H':=zF H
         clear H
         obtain ⟨Ao17,co17,eo17⟩:=Kd.R_slice HO_5.out
         subst eo17
         have p145:0≤(x6_1:Int):=zE (by first|(with_reducible assumption)|assumption)
         have q145:x6_1 < (t142.length:Int):=zE (by first|(with_reducible assumption)|assumption)
         obtain ⟨ad145,e145,hx145_0⟩:=Kd.at_int (Kd.R_reads' HO_5.out).2.2 x6_1 p145 q145
         cases e145
         replace p145:=eq_true p145
         replace q145:=eq_true q145
         have hcz18_0:wr.cell? ⟨gb140,0,none⟩=some (.slice A0_0 l0_0.length c0_0):=(blk_cell BK140.out 0).trans rfl
         have hcz18_1:wr.cell? ⟨gb140,1,none⟩=some (.slice (some ad141) l0_1.length c0_1):=(blk_cell BK140.out 1).trans rfl
         have hcz18_2:wr.cell? ⟨gb140,2,none⟩=some (.slice A0_2 l0_2.length c0_2):=(blk_cell BK140.out 2).trans rfl
         have hcz18_3:wr.cell? ⟨gb140,3,none⟩=some (.slice A0_3 l0_3.length c0_3):=(blk_cell BK140.out 3).trans rfl
         have hcz18_4:wr.cell? ⟨gb140,4,none⟩=some (.slice A0_4 l0_4.length c0_4):=(blk_cell BK140.out 4).trans rfl
         have hcz18_5:wr.cell? ⟨gb140,5,none⟩=some (.slice A0_5 l0_5.length c0_5):=(blk_cell BK140.out 5).trans rfl
         have hfz18_0:=blk_frozen BK140.out 0
         have hfz18_1:=blk_frozen BK140.out 1
         have hfz18_2:=blk_frozen BK140.out 2
         have hfz18_3:=blk_frozen BK140.out 3
         have hfz18_4:=blk_frozen BK140.out 4
         have hfz18_5:=blk_frozen BK140.out 5
         have p147:0≤(x6_1:Int):=zE (by first|(with_reducible assumption)|assumption)
         have q147:x6_1 < (t142.length:Int):=zE (by first|(with_reducible assumption)|assumption)
         obtain ⟨ad147,e147,hx147_0⟩:=Kd.at_int (Kd.R_reads' HO_5.out).2.2 x6_1 p147 q147
         obtain rfl:ad145=ad147:=(by injection e147)
         replace p147:=eq_true p147
         replace q147:=eq_true q147
         go_wp2_with (first|(go_at_call 24;(with_reducible refine (cohousingref23_In.calls k1 _ _ l0_5 (rd t142 x6_1) t148 _ ?side1 ?side2 A13.out).mono ?_);(case side1=>repeat (first|exact (Kd.C_below HR0_5.out HB.out)|(with_reducible refine Kd.C_alloc ?_ _)|(with_reducible refine Kd.C_drewN ?_ _)|(with_reducible refine Kd.C_drew ?_)));(case side2=>exact HC0_5.out);rintro e w' ⟨rfl,⟨nd,rfl⟩⟩;(try first|exact ⟨rfl,_,World.drewN_drewN _ _ _⟩|exact ⟨rfl,_,Eq.trans (World.drewN_drewN _ _ _) (congrArg (World.drewN _) (Nat.add_assoc _ _ _))⟩)))
         repeat (go_quiet (first|(go_at_call 24;(with_reducible refine (cohousingref23_In.calls k1 _ _ l0_5 (rd t142 x6_1) t148 _ ?side1 ?side2 A13.out).mono ?_);(case side1=>repeat (first|exact (Kd.C_below HR0_5.out HB.out)|(with_reducible refine Kd.C_alloc ?_ _)|(with_reducible refine Kd.C_drewN ?_ _)|(with_reducible refine Kd.C_drew ?_)));(case side2=>exact HC0_5.out);rintro e w' ⟨rfl,⟨nd,rfl⟩⟩;(try first|exact ⟨rfl,_,World.drewN_drewN _ _ _⟩|exact ⟨rfl,_,Eq.trans (World.drewN_drewN _ _ _) (congrArg (World.drewN _) (Nat.add_assoc _ _ _))⟩)));try go_wp2_with (first|(go_at_call 24;(with_reducible refine (cohousingref23_In.calls k1 _ _ l0_5 (rd t142 x6_1) t148 _ ?side1 ?side2 A13.out).mono ?_);(case side1=>repeat (first|exact (Kd.C_below HR0_5.out HB.out)|(with_reducible refine Kd.C_alloc ?_ _)|(with_reducible refine Kd.C_drewN ?_ _)|(with_reducible refine Kd.C_drew ?_)));(case side2=>exact HC0_5.out);rintro e w' ⟨rfl,⟨nd,rfl⟩⟩;(try first|exact ⟨rfl,_,World.drewN_drewN _ _ _⟩|exact ⟨rfl,_,Eq.trans (World.drewN_drewN _ _ _) (congrArg (World.drewN _) (Nat.add_assoc _ _ _))⟩))))
         go_roundg k1
         case measure=>have:=HK1.out;omega
         case rel=>exact ⟨(wrap64 (x6_1 + 1)),(by first|rfl|(simp;done)|(simp [*];done)),H',⟨by have:=HK1.out;omega⟩,⟨by (with_reducible repeat (first|apply Kd.R_alloc|apply Kd.R_drewN|apply Kd.R_drew));exact HO_5.out⟩,⟨by (with_reducible repeat (first|refine blk_drewN ?_ _|refine blk_drew ?_|refine blk_alloc ?_ _));exact BK140.out⟩,⟨by repeat (first|(with_reducible first|exact HB.out|apply below_alloc|apply pw_below_drewN|apply below_drew1|refine below_set ?_ GE140.out)|exact HB.out)⟩⟩
      ·
       rw [if_neg c10] at H
       exact absurd H (by simp)
     ·
      rw [if_neg c9] at H
      have c9b0:decide (x6_1 < (t142.length:Int))=false:=decide_eq_false c9
      clear c9
      obtain rfl:=Option.some.inj H
      obtain ⟨Ao19,co19,eo19⟩:=Kd.R_slice HO_5.out
      subst eo19
      go_wp2
      repeat (go_quiet (fail);try go_wp2)
      go_ret
      exact ⟨by first|rfl|(simp [errW_none,errW_some] <;> rfl)|(simp [*,errW_none,errW_some] <;> rfl),by repeat (first|(with_reducible first|exact HB.out|apply below_alloc|apply pw_below_drewN|apply below_drew1|refine below_set ?_ GE140.out)|exact HB.out)⟩
  ·
   rw [if_neg c4] at H
   exact absurd H (by simp)
 ·
  rw [if_neg c3] at H
  exact absurd H (by simp)

end Go.Proofs.Ytjgnkhfgmpaljaa.P
