/- Lemmas, readings of functions as plain Lean functions and contracts of functions of the program, for the claimed theorem; each one's conditions stand in its statement. -/
import Derived.Test.YtjgnkhfgmpaljaaQTD11
import Derived.Test.YtjgnkhfgmpaljaaQTD18
import Derived.RangeFuncNested
import Derived.RangeFuncBound
import Derived.RangeFuncCalls
import Derived.RangeFuncLeaves
import Derived.RangeFuncBox
import Derived.Shelf.Abstract
import Derived.OwnWalkIn
import Derived.TacticsInMore
import Derived.LoopNIn
import Derived.LoopIn
import Derived.Sort.LoopGhostIn
import Derived.Lib.SlKeysI
import Derived.Lib.OwnBridge
import Derived.Shelf.SlIter.Collect
namespace Go.Proofs.Ytjgnkhfgmpaljaa.P
open Go.RowKit Go.Shelf Go.Sort Go.Proofs.YtjgnkhfgmpaljaaW.PrintWords Go.Proofs.YtjgnkhfgmpaljaaW.PrintLast Go.Proofs.YtjgnkhfgmpaljaaW.PrintMore Go.Proofs.Ytjgnkhfgmpaljaa.M
set_option linter.unusedVariables false
set_option linter.unusedSimpArgs false
attribute [local go_sem] Oper.semAt_some

theorem take_snoc {l:List Int} {i:Nat} (h:i < l.length):l.take (i + 1)=l.take i ++ [rd l (i:Int)]:=by
 rw [List.take_succ_eq_append_getElem h,rd_get h]
set_option maxHeartbeats 4000000 in
set_option maxRecDepth 100000 in
theorem values_calls (A:Option Addr) (n c:Nat) (w:World) :
  Calls Try.prog 71 #[.slice A n c] w fun e w'=>e = .returned (.func (.func 83) #[] #[.pointer (some ⟨w.heap.size,0,none⟩)])∧w'=w.alloc (.cells #[.slice A n c] 26):=by
 go_enter Try.func71,Try.ntmps71
 go_wp2
 go_ret
 exact ⟨rfl,rfl⟩
set_option maxHeartbeats 4000000 in
set_option maxRecDepth 100000 in
theorem values1_in (w1:World) (Bs:Nat) (A:Option Addr) (c:Nat) (l:List Int) (hr:(Kd.int .i64).C w1 A l.length l) (hbx:w1.heap[Bs]? = some (.cells #[.slice A l.length c] 26 (0,0)))
  (n lp:Nat) (hn:1≤n) (J Jx:List Int→World→Prop) (W:World)
  (hY:∀ pre x W1,J pre W1→pre.length < l.length→YieldAt Fence.wide (n - 1) Try.prog lp #[.int .i64 x] W1 fun e W' =>
   (e = .returned (.bool true)∧J (pre ++ [x]) W'∧Below w1.heap.size W1 W') ∨ (e = .returned (.bool false)∧Jx (pre ++ [x]) W'))
  (hB:Below w1.heap.size w1 W) (h0:J [] W) :
  CallsIn Fence.wide n Try.prog 83 #[.func (.yield lp) #[] #[],.pointer (some ⟨Bs,0,none⟩)] W fun e W'=>(∃ v,e = .returned v)∧((∃ ys,ys=l∧J ys W') ∨ (∃ pre,pre <+: l∧Jx pre W')):=by
 have HR:=zF hr
 have hml:=hr.2.1
 have HY:=zF hY
 have HB:=zF hB
 have HJ0:=zF h0
 have y1:W.cell? ⟨Bs,0,none⟩=some (.slice A l.length c):=(blk_cell (blk_below hbx hB) 0).trans rfl
 clear hr hY hB h0 hbx
 refine callsIn_of_wp Try.func83 rfl trivial ?_ rfl
 simp only [Try.ntmps83,List.size_toArray,List.length_cons,List.length_nil,Nat.reduceAdd,Nat.reduceSub,Array.replicate_succ,Array.replicate_zero,List.push_toArray,List.append_toArray,List.nil_append,List.cons_append]
 gi_wp2
 clear y1
 gi_loopg [4,7] l.length (fun gk _ v7 w'=>∃ i:Nat,v7 = .int .i64 i∧Aside0 (i≤l.length∧gk=l.length - i)∧Aside0 (J (l.take i) w')∧Aside0 (Below w1.heap.size W w'))
 case atStart=>exact ⟨0,rfl,⟨Nat.zero_le _,rfl⟩,HJ0,⟨Below.refl _ _⟩⟩
 case round =>
  obtain ⟨i,rfl,HI,HJ,HK⟩:=hrel
  have hi:=HI.out.1
  by_cases hlt:i < l.length
  ·
   obtain ⟨ad,e,y⟩:=intC_at HR.out (i:=i) hlt
   subst e
   have hblk:=World.block_lt_of_cell? _ _ y
   replace y:=(HK.out.cell hblk).trans (pw_cell_below HB.out y)
   clear hblk
   have HS:=zF (take_snoc hlt)
   have hlti:(i:Int) < (l.length:Int):=by omega
   obtain ⟨fn,tmps,assign,body,hy,hR⟩:=HY.out _ (rd l (i:Int)) wr HJ.out (by rw [List.length_take];omega)
   have HRy:=zF hR
   clear hR
   gi_wp2
   refine HRy.out.mono ?_
   rintro e W3 (⟨rfl,hJ3,hk3⟩|⟨rfl,hJx3⟩)
   ·
    have HJ3:Aside0 (J (l.take (i + 1)) W3):=⟨by rw [HS.out];exact hJ3⟩
    have HK3:=zF (HK.out.trans hk3)
    clear hJ3 hk3 HRy hy HJ HK y
    gi_wp2
    gi_roundg (l.length - (i + 1))
    case measure=>have:=HI.out;omega
    case rel=>exact ⟨i + 1,by go_num,⟨by omega,rfl⟩,HJ3,HK3⟩
   ·
    have HJ3:Aside0 (Jx (l.take (i + 1)) W3):=⟨by rw [HS.out];exact hJx3⟩
    clear hJx3 HRy hy HJ HK y
    gi_wp2
    refine bodyPost_ret (results_none rfl _ _ _) rfl ?_
    exact ⟨⟨_,rfl⟩,.inr ⟨_,List.take_prefix _ _,HJ3.out⟩⟩
  ·
   obtain rfl:i=l.length:=by omega
   have HJ3:Aside0 (J l wr):=⟨by have:=HJ.out;rwa [List.take_length] at this⟩
   gi_wp2
   go_end0
   exact ⟨⟨_,rfl⟩,.inl ⟨_,rfl,HJ3.out⟩⟩
/-- Between two rounds of AppendSeq. -/
def ApI (w:World) (pre:List Int) (W:World):Prop:=(∃ v,W.heap[w.heap.size]? = some (.cells #[v] 26 (0,0))∧W.ownsRow w.heap.size 3 1 v pre.length (pre.map (Value.int .i64)))∧Below w.heap.size w W
theorem apI_own (w:World) (B:Nat) (hB:w.heap.size≤B):OwnFrom B (ApI w):=fun s X Y row h hg hr=>by
 obtain ⟨⟨v,hb,hR⟩,hbl⟩:=h
 have hne:∀ {k:Nat} {cs:Array Value} {q:TypeId},X.heap[k]? = some (.cells cs q (0,0))→some k≠row:=fun hc e=>by
  obtain ⟨_,o,ho,hc2⟩:=hr _ e.symm
  rw [hc] at ho;cases ho;cases hc2
 refine ⟨⟨v,(hg.block _ (blk_lt hb) (hne hb)).trans hb,?_⟩,hbl.grown hg hbl.size (fun k e=>Nat.le_trans hB (hr k e).1)⟩
 refine ⟨hR.1,?_⟩
 rcases hR.2 with h|⟨g,cap,cur,h1,h2,h3,h4⟩
 ·
  exact .inl h
 ·
  exact .inr ⟨g,cap,cur,h1,h2,(hg.block _ (blk_lt h3) (hne h3)).trans h3,h4⟩
theorem ap_step {W w3:World} {b base:Nat} {v v':Value} {pre:List Int} {x:Int} (hX:W.heap[b]? = some (.cells #[v] 26 (0,0))) (hR:W.ownsRow base 3 1 v pre.length (pre.map (Value.int .i64)))
  (hown:w3.ownsRow base 3 1 v' (pre.length + 1) (pre.map (Value.int .i64) ++ [.int .i64 x])) (hg3:(W.alloc (.cells #[.int .i64 x] 3)).grownBy w3 v.ownBlock) :
  w3.heap[b]? = some (.cells #[v] 26 (0,0))∧∃ g' cap',v' = .slice (some ⟨g',0,none⟩) (pre.length + 1) cap'∧base≤g':=by
 have hlt:=blk_lt hX
 refine ⟨(hg3.block b (by simp;omega) ?_).trans (blk_alloc hX _),?_⟩
 ·
  rcases ownsRow_ne_a hR hX (fun cur e=>by cases e) with e|e
  ·
   rw [e];simp
  ·
   exact fun e'=>e e'.symm
 ·
  rcases hown.2 with ⟨_,h0⟩|⟨g',cap',cur',h1,h2,_⟩
  ·
   exact absurd h0 (by omega)
  ·
   exact ⟨g',cap',h1,h2⟩
set_option maxHeartbeats 8000000 in
set_option maxRecDepth 100000 in
theorem appendSeq_in (w:World) (Bs:Nat) (A:Option Addr) (c:Nat) (l:List Int) (hl:l.length≤1000) (hr:(Kd.int .i64).C w A l.length l) (hbx:w.heap[Bs]? = some (.cells #[.slice A l.length c] 26 (0,0))) :
  CallsIn Fence.wide 6 Try.prog 90 #[.slice none 0 0,.func (.func 83) #[] #[.pointer (some ⟨Bs,0,none⟩)]] w fun e w'=>∃ v,e = .returned v∧w'.ownsRow w.heap.size 3 1 v l.length (l.map (Value.int .i64))∧Below w.heap.size w w':=by
 have HR:=zF hr
 have HBX:=zF hbx
 clear hr hbx
 refine callsIn_of_wp_marks Try.func90 rfl trivial ?_ rfl
 simp only [Try.ntmps90,List.size_toArray,List.length_cons,List.length_nil,Nat.reduceAdd,Nat.reduceSub,Array.replicate_succ,Array.replicate_zero,List.push_toArray,List.append_toArray,List.nil_append,List.cons_append]
 gi_wp2
 have HB0:=zF (below_alloc (Below.refl w.heap.size w) (.cells #[.slice none 0 0] 26))
 have HX0:=zF (blk_new w (.cells #[.slice none 0 0] 26))
 have hs0:(w.alloc (.cells #[.slice none 0 0] 26)).heap.size=w.heap.size + 1:=by simp
 obtain ⟨W0,hW0⟩:∃ W0,w.alloc (.cells #[.slice none 0 0] 26)=W0:=⟨_,rfl⟩
 rw [hW0] at HB0 HX0 hs0 ⊢
 clear hW0
 refine wpIn_rangeFunc_ownH rfl (by decide) (gf:=83) (lb:=#[.pointer (some ⟨Bs,0,none⟩)]) rfl trivial (enters_of Try.func83 (by kernel_rfl) rfl)
  (encs:=fun x:Int=>#[Value.int .i64 x]) (Kp:=Below w.heap.size) (S:=fun ys=>ys=l) (Sp:=fun pre=>pre <+: l) (N:=l.length) (w0:=W0)
  (fun lp J Jx W hW hJ hJx hY h0=>values1_in w Bs A c l HR.out HBX.out _ lp (by decide) J Jx W hY (HB0.out.trans (hW.mono (by omega))) h0)
  belowK_t (belowK_b (by omega)) (Below.refl _ _) (fun _=>rfl)
  (ApI w) (fun _ _ _=>False) (apI_own w _ (by omega)) (fun _ _ _ _ _ hs _ _=>hs)
  ⟨⟨_,HX0.out,⟨rfl,.inl ⟨rfl,rfl⟩⟩⟩,HB0.out⟩
  (fun x a' W=>a'={ tmps:=#[.slice none 0 0,.func (.func 83) #[] #[.pointer (some ⟨Bs,0,none⟩)],.pointer (some ⟨w.heap.size,0,none⟩),undef,.slice none 0 0,.int .i64 x,.func (.func 83) #[] #[.pointer (some ⟨Bs,0,none⟩)],.int .i64 x,undef,undef,undef,undef,undef],defers:=[] })
  (fun x a' _ X Y row hs hg hr=>hs)
  ?assign ?body ?done ?stop
 case assign =>
  rintro lp pre x W K hI hK
  have HI:=zF hI
  clear hI
  gi_wp2
  exact hK _ _ ((KeepsOthers.refl _).from _) (Below.refl _ _) HI.out rfl
 case body =>
  rintro lp pre x a' W hlp ⟨r,hlr⟩ ⟨⟨v,hb,hR⟩,hbl⟩ rfl hlt
  have HX:=zF hb
  have HRw:=zF hR
  have HBl:=zF hbl
  have hsz:=hbl.size
  obtain ⟨hc,hfz⟩:=cell_of_box_a hb
  have hmx0:(1001:Nat)≤maxLen:=by decide
  have hmx:pre.length + 1≤maxLen:=by omega
  obtain ⟨i0,hi,hz0,hz1,hz2⟩:=info_parts info3
  clear hb hR hbl hlr
  gi_wp2_with (gi_at_builtin;refine wpListIn_append_own _ rfl _ _ 26 rfl w.heap.size 3 i0 (.int .i64 0) 1 8 Try.underlying26 hi hz0 hz1 hz2 rfl (by decide) v pre.length (pre.map (Value.int .i64)) rfl (HRw.out.alloc _) ⟨W.heap.size,0,none⟩ 1 1 [.int .i64 x] rfl rfl (cell_one_new _ _ _) (by simp [Value.oneCell']) hmx (by omega) (by simp;omega) ?_;intro v' w3 hown' hg3 hnil3;obtain ⟨hX3,g',cap',rfl,hbase'⟩:=ap_step HX.out HRw.out hown' hg3;obtain ⟨hc3,hf3⟩:=cell_of_box_a hX3;have HX3:=zF hX3;have HG3:=zF hg3;have HO3:=zF hown';clear hX3 hg3 hown' hnil3;go_frame)
  have hb4:w3.grownBy (w3.setCell ⟨w.heap.size,0,none⟩ (.slice (some ⟨g',0,none⟩) (pre.length + 1) cap')) (some w.heap.size):=grownBy_setCell0_a _ _ _
  have hv4:=heap_setCell_box_a (.slice (some ⟨g',0,none⟩) (pre.length + 1) cap') HX3.out
  have hR4:=HO3.out.kept hb4 (ownsRow_ne_a HO3.out HX3.out (fun cur e=>by cases e))
  have hbW:Below w.heap.size W (W.alloc (.cells #[.int .i64 x] 3)):=(Below.refl _ _).alloc hsz _
  have hb3:Below w.heap.size W w3:=hbW.grown HG3.out (Nat.le_trans hsz hbW.size) (fun k e=>(HRw.out.lt k e).1)
  have hb4':=hb3.grown hb4 (Nat.le_trans hsz hb3.size) (fun k e=>by cases e;exact Nat.le_refl _)
  have hap:ApI w (pre ++ [x]) (w3.setCell ⟨w.heap.size,0,none⟩ (.slice (some ⟨g',0,none⟩) (pre.length + 1) cap')):=⟨⟨_,hv4,by simpa using hR4⟩,HBl.out.trans hb4'⟩
  have hko:KeepsOthers W (w3.setCell ⟨w.heap.size,0,none⟩ (.slice (some ⟨g',0,none⟩) (pre.length + 1) cap')):=by
   refine ((KeepsOthers.alloc W (.cells #[.int .i64 x] 3)).trans (KeepsOthers.of_grownBy HG3.out (fun j o e ho=>?_))).trans (KeepsOthers.setCell _ _ _)
   rcases (HRw.out.alloc (.cells #[.int .i64 x] 3)).2 with ⟨h1,_⟩|⟨g,cap,cur,h1,_,h3,_⟩
   ·
    rw [h1] at e;simp [Value.ownBlock] at e
   ·
    rw [h1] at e;simp only [Value.ownBlock] at e;cases e;rw [h3] at ho;cases ho;rfl
  exact ⟨hko.from _,hb4',hap⟩
 case done =>
  rintro D ys W hD rfl ⟨⟨v,hb,hR⟩,hbl⟩ hK
  obtain ⟨hc,hfz⟩:=cell_of_box_a hb
  have HRw:=zF hR
  have HBl:=zF hbl
  have HKD:=zF hK
  clear hb hR hbl hK
  gi_wp2
  refine ⟨by simp,.inl ⟨_,_,rfl,run_takeDeferred HKD.out,?_⟩⟩
  refine ⟨v,?_,v,rfl,?_,?_⟩
  ·
   simp [results,Try.f90,go_sem]
  ·
   exact HRw.out.kept (grownBy_putObj_a _ _ _) (ownsRow_ne_a HRw.out HKD.out (fun cur e=>by cases e))
  ·
   exact HBl.out.trans (belowK_b (w:=w) (Nat.le_refl _) _ D _ _ (by omega) HKD.out rfl rfl)
 case stop =>
  rintro D c pre W _ _ h _
  exact h.elim
theorem below_grow0 (w:World) (os:Array Obj):Below w.heap.size w (grow w os):=⟨rfl,rfl,rfl,by simp,fun k hk=>heap_grow_old _ _ hk⟩
def SortPost (base:Nat) (v:Value) (xs:List Int) (W:World) (e:Ending) (w':World):Prop :=
 e = .returned (.tuple #[])∧Kd.R (Kd.int .i64) 3 w' base (fun _=>True) v (xs.mergeSort fun x y=>decide (x≤y))∧∀ w0,Below base w0 W→base≤W.heap.size→Below base w0 w'
theorem sort_R (base:Nat) (v:Value) (xs:List Int) (W:World) (hR:Kd.R (Kd.int .i64) 3 W base (fun _=>True) v xs) (hsz:xs.length < 4611686018427387904) :
  Calls Try.prog 82 #[v] W (SortPost base v xs W):=by
 have hown:=Kd.own_of_R hR
 by_cases hv:v = .slice none 0 0
 ·
  subst hv
  have hx:xs=[]:=by
   rcases hown.2 with ⟨_,h⟩|⟨g,cap,cur,h,_⟩
   ·
    cases xs with
    | nil=>rfl
    | cons x xs=>exact absurd h (by simp [encs])
   ·
    cases h
  subst hx
  refine (Try.sort_none none 0 W).mono ?_
  rintro e w' ⟨rfl,rfl⟩
  exact ⟨rfl,by simpa using hR,fun w0 h _=>h⟩
 ·
  obtain ⟨g,cap,rfl,hb,hlt,h1,h2,h3,hH⟩:=Lib.holds_of_ownsRow (zs:=xs) (enc:=Value.int .i64) hown hv
  refine (Try.sort_some g 0 cap xs W hH hlt hsz).mono ?_
  rintro e w' ⟨rfl,n,os,rfl⟩
  have hl:(xs.mergeSort fun x y=>decide (x≤y)).length=xs.length:=by simp
  have ho:=Lib.ownsRow_putRow (q:=n) (k:=xs.length) (ys:=xs.mergeSort fun x y=>decide (x≤y)) hown hl (Nat.le_refl _)
  have e1:(xs.mergeSort fun x y=>decide (x≤y)).take xs.length=xs.mergeSort fun x y=>decide (x≤y):=List.take_of_length_le (by omega)
  rw [e1] at ho
  refine ⟨rfl,?_,fun w0 h hB=>?_⟩
  ·
   have hr:Kd.R (Kd.int .i64) 3 (putRow (Value.int .i64) (Sort.ahead W n) g 0 (xs.mergeSort fun x y=>decide (x≤y)).toArray) base (fun _=>True) (.slice (some ⟨g,0,none⟩) xs.length cap) (xs.mergeSort fun x y=>decide (x≤y)) :=
    Kd.R_of_own (enc:=Value.int .i64) (h1:=fun _=>rfl) (by rw [hl];exact ho) (fun _ _=>trivial)
   exact Kd.R_below hr (below_grow0 _ _)
  ·
   have hs:(putRow (Value.int .i64) (Sort.ahead W n) g 0 (xs.mergeSort fun x y=>decide (x≤y)).toArray).heap.size=W.heap.size:=by simp [putRow,mapBlock,Sort.ahead]
   exact (Lib.below_putRow h hb).trans ((below_grow0 _ _).mono (by rw [hs];exact hB))
def sortL (l:List Int):List Int:=l.mergeSort fun x y=>decide (x≤y)
set_option maxHeartbeats 4000000 in
set_option maxRecDepth 100000 in
theorem sorted_calls (w:World) (Bs:Nat) (A:Option Addr) (c:Nat) (l:List Int) (hl:l.length≤1000) (hr:(Kd.int .i64).C w A l.length l) (hbx:w.heap[Bs]? = some (.cells #[.slice A l.length c] 26 (0,0))) :
  Calls Try.prog 70 #[.func (.func 83) #[] #[.pointer (some ⟨Bs,0,none⟩)]] w fun e w'=>∃ v,e = .returned v∧Kd.R (Kd.int .i64) 3 w' w.heap.size (fun _=>True) v (sortL l)∧Below w.heap.size w w':=by
 have HA:=zF ((callsIn_wide (n:=6)).1 (appendSeq_in w Bs A c l hl hr hbx))
 have HC:Aside0 (Calls Try.prog 81 #[.func (.func 83) #[] #[.pointer (some ⟨Bs,0,none⟩)]] w fun e w'=>∃ v,e = .returned v∧w'.ownsRow w.heap.size 3 1 v l.length (l.map (Value.int .i64))∧Below w.heap.size w w'):=⟨by
  clear hr hbx
  go_enter Try.func81,Try.ntmps81
  go_wp2_with (go_at_call 90;(with_reducible refine HA.out.mono ?_);rintro e w1 ⟨v,rfl,hR,hb⟩;have HR1:=zF hR;have HB1:=zF hb;clear hR hb)
  go_ret
  exact ⟨v,rfl,HR1.out,HB1.out⟩⟩
 have HSo:=zF (fun (v:Value) (W:World) (h:Kd.R (Kd.int .i64) 3 W w.heap.size (fun _=>True) v l)=>sort_R w.heap.size v l W h (by omega))
 clear HA hr hbx
 go_enter Try.func70,Try.ntmps70
 go_wp2_with (first
  | (go_at_call 81;(with_reducible refine HC.out.mono ?_);rintro e w1 ⟨v,rfl,hR,hb⟩;have HR1:Aside0 (Kd.R (Kd.int .i64) 3 w1 w.heap.size (fun _=>True) v l):=⟨Kd.R_of_own (enc:=Value.int .i64) (h1:=fun _=>rfl) hR (fun _ _=>trivial)⟩;have HB1:=zF hb;clear hR hb)
  | (go_at_call 82;(with_reducible refine (HSo.out _ _ HR1.out).mono ?_);rintro e w2 ⟨rfl,hR,hb⟩;have HR2:=zF hR;have HB2:=zF (hb _ HB1.out HB1.out.size);clear hR hb))
 go_ret
 exact ⟨v,rfl,HR2.out,HB2.out⟩
end Go.Proofs.Ytjgnkhfgmpaljaa.P
namespace Go.Proofs.Ytjgnkhfgmpaljaa.P
open Go.RowKit Go.Proofs.YtjgnkhfgmpaljaaW.PrintWords Go.Proofs.YtjgnkhfgmpaljaaW.PrintLast Go.Proofs.YtjgnkhfgmpaljaaW.PrintMore Go.Proofs.Ytjgnkhfgmpaljaa.M
set_option linter.unusedVariables false
set_option linter.unusedSimpArgs false
def idsB:Nat→List Int→Bool
 | _,[]=>true
 | i,x :: l=>!((i:Int) != x) && idsB (i + 1) l
def orderB (l:List Int) (n:Int):Bool:=idsB 0 (sortL l) && ((l.length:Int) == n)
theorem idsB_step {l:List Int} {i:Nat} (h:i < l.length):idsB i (l.drop i)=(!((i:Int) != rd l (i:Int)) && idsB (i + 1) (l.drop (i + 1))):=by
 rw [List.drop_eq_getElem_cons h,rd_get h];rfl
theorem sortL_len (l:List Int):(sortL l).length=l.length:=by unfold sortL;simp
set_option maxHeartbeats 8000000 in
set_option maxRecDepth 100000 in
theorem isOrder_calls (w:World) (A:Option Addr) (c:Nat) (l:List Int) (n:Int) (hl:l.length≤1000) (hr:(Kd.int .i64).C w A l.length l) :
  Calls Try.prog 43 #[.slice A l.length c,.int .i64 n] w (RetB w (orderB l n)):=by
 have HE:Aside0 (orderB l n=(idsB 0 (sortL l) && ((l.length:Int) == n))):=⟨rfl⟩
 have HSo:=zF (fun (W:World) (Bs:Nat) (hb:Below w.heap.size w W) (hbx:W.heap[Bs]? = some (.cells #[.slice A l.length c] 26 (0,0)))=>sorted_calls W Bs A c l hl (Kd.C_below hr hb) hbx)
 generalize orderB l n=ob at *
 generalize sortL l=s at *
 clear hr
 go_enter Try.func43,Try.ntmps43
 go_wp2_with (first
  | (go_at_call 71;(with_reducible refine (values_calls A l.length c w).mono ?_);rintro e w1 ⟨rfl,rfl⟩)
  | (go_at_call 70;(with_reducible refine (HSo.out _ _ (below_alloc (Below.refl _ _) _) (blk_new _ _)).mono ?_);rintro e w2 ⟨v,rfl,hR,hb⟩;obtain ⟨A2,c2,ev,hlc,hC⟩:=Kd.R_reads hR;subst ev;have HC:=zF hC;have HB2:=zF (below_step (below_alloc (Below.refl _ _) _) hb);clear hR hb hC))
 clear HSo
 have hsm:=HC.out.2.1
 go_loopg [6,7,13] s.length (fun gk _ _ v13 w'=>∃ i:Nat,v13 = .int .i64 i∧Aside0 (i≤s.length∧gk=s.length - i)∧Aside0 (idsB 0 s=idsB i (s.drop i))∧Aside0 (Below w2.heap.size w2 w'))
 case atStart=>exact ⟨0,rfl,⟨Nat.zero_le _,rfl⟩,⟨by rw [List.drop_zero]⟩,⟨Below.refl _ _⟩⟩
 case round =>
  obtain ⟨i,rfl,HI,HS,HB⟩:=hrel
  have hi:=HI.out.1
  by_cases hlt:i < s.length
  ·
   obtain ⟨ad,e,y⟩:=intC_at HC.out (i:=i) hlt
   subst e
   replace y:=pw_cell_below HB.out y
   have HN:=zF (HS.out.trans (idsB_step hlt))
   have hlti:(i:Int) < (s.length:Int):=by omega
   clear HS
   generalize rd s (i:Int)=x at *
   cases hx:((i:Int) != x) with
   | true =>
    have HF:Aside0 (ob=false):=⟨by rw [HE.out,HN.out,hx];rfl⟩
    go_wp2
    go_ret
    exact ⟨by rw [HF.out];rfl,HB2.out.trans (HB.out.mono HB2.out.size)⟩
   | false =>
    have HF:Aside0 (idsB 0 s=idsB (i + 1) (s.drop (i + 1))):=⟨by rw [HN.out,hx];rfl⟩
    clear HN
    go_wp2
    go_roundg (s.length - (i + 1))
    case measure=>have:=HI.out;omega
    case rel=>exact ⟨i + 1,by go_num,⟨by omega,rfl⟩,HF,HB⟩
  ·
   obtain rfl:i=s.length:=by omega
   have HT:Aside0 (ob=((l.length:Int) == n)):=⟨by rw [HE.out,HS.out,List.drop_length];rfl⟩
   go_wp2
   go_ret
   exact ⟨by rw [HT.out];rfl,HB2.out.trans (HB.out.mono HB2.out.size)⟩
end Go.Proofs.Ytjgnkhfgmpaljaa.P
