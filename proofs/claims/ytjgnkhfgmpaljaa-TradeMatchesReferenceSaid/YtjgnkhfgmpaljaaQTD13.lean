/- Lemmas, readings of functions as plain Lean functions and contracts of functions of the program, for the claimed theorem; each one's conditions stand in its statement. -/
import Derived.Test.YtjgnkhfgmpaljaaQTD12
import Derived.Test.YtjgnkhfgmpaljaaQTD7
import Derived.Lib.SliceRun
namespace Go.Proofs.Ytjgnkhfgmpaljaa.P
open Go.RowKit Go.Proofs.YtjgnkhfgmpaljaaW.PrintWords Go.Proofs.YtjgnkhfgmpaljaaW.PrintLast Go.Proofs.YtjgnkhfgmpaljaaW.PrintMore Go.Proofs.Ytjgnkhfgmpaljaa.M
set_option linter.unusedVariables false
set_option linter.unusedSimpArgs false
theorem k39_KM {w:World} (base:Nat) (okp:Nat→Prop) (x:S39) (cs:List Value) (h:k39.K w x cs):k39.M w base okp x cs:=by
 rw [k39_open h];exact k39_mkM w base okp x
def RowPost (w:World) (l:List S39) (e:Ending) (w':World):Prop:=∃ v:Value,e = .returned v∧Kd.R k39 39 w' w.heap.size (fun _=>True) v l∧Below w.heap.size w w'
set_option maxHeartbeats 8000000 in
set_option maxRecDepth 100000 in
theorem cloneM_calls (A0:Option Addr) (c0:Nat) (l0:List S39) (w:World) (hr0:Kd.C k39 w A0 l0.length l0) (hl0:l0.length≤100000) :
  Calls Try.prog 94 #[.slice A0 l0.length c0] w (RowPost w l0):=by
 have HR0:=zF hr0
 have HB:=zF (Below.refl w.heap.size w)
 have hln:=zF hr0.2.2
 clear hr0
 have hnil:=fun W A n c=>Lib.run_eql_slice_nil (P:=Try.prog) W 29 39 A n c 0 0 Try.underlying29
 cases A0 with
 | none =>
  have hl:l0=[]:=by
   cases l0 with
   | nil=>rfl
   | cons x l=>obtain ⟨ad,h,_⟩:=hln.out (by simp);cases h
  subst hl
  go_enter Try.func94,Try.ntmps94
  go_wp2
  go_ret
  exact ⟨_,rfl,Kd.R_nil _ _ _ _ _,HB.out⟩
 | some ad =>
  go_enter Try.func94,Try.ntmps94
  go_wp2_with (first
   | ((with_reducible refine gate_dst (N:=5) rfl ?_);refine Kd.R_lit k39 (w0:=w) w.heap.size 39 rfl (N:=5) rfl (xs:=([]:List S39)) (inner:=[]) (ok:=fun _=>True) (okp:=fun _=>False) ?hr ⟨rfl,by simp⟩ (fun _ h=>h.elim) trivial HB.out (Nat.le_refl _) (by simp) ?_;(case hr=>first|(go_simp;done)|(go_simp;rfl));intro v1 w1 ho hb hg hat;have HO:=zF ho;have HB1:=zF hb;clear ho hb hg hat)
   | ((with_reducible refine gate_builtin (b:=.append) (xs:=#[.tmp 5,.tmp 6]) rfl ?_);at_builtin;refine Kd.R_append_rows k39 (w0:=w) w.heap.size rfl (.tmp 5) (.tmp 6) 29 39 (.agg #[(.int .i64 0),(.int .i64 0),(.int .i64 0)]) 24 rfl Try.underlying29 info39 rfl (by decide) (by omega) v1 ([]:List S39) l0 _ _ _ (fun _=>True) (fun _=>False) rfl rfl HO.out (Kd.C_below HR0.out HB1.out) (fun x cs h=>k39_KM _ _ x cs h) (fun _ h=>h.elim) (fun _ _=>trivial) HB1.out HB1.out.size (by simp;omega) ?_;intro v2 w2 ho hb hg hat;have HO2:=zF ho;have HB2:=zF hb;clear ho hb hg hat))
  go_ret
  exact ⟨_,rfl,by simpa using HO2.out,HB2.out⟩
/-- What the loop of Reverse computes. -/
def revAt (l:List S39) (i:Nat):List S39:=(l.drop (l.length - i)).reverse ++ (l.drop i).take (l.length - 2 * i) ++ (l.take i).reverse
theorem rd39_get {l:List S39} {i:Nat} (h:i < l.length):rd_T39 l (i:Int)=l[i]:=by
 unfold rd_T39
 rw [Int.toNat_natCast,List.getD_eq_getElem?_getD,List.getElem?_eq_getElem h];rfl
theorem revAt_get {l:List S39} {i j:Nat} (hi:2 * i≤l.length) (hj:j < l.length):(revAt l i)[j]? = if j < i ∨ l.length - i≤j then l[l.length - 1 - j]? else l[j]?:=by
 unfold revAt
 rw [List.append_assoc]
 by_cases h1:j < i
 ·
  rw [if_pos (.inl h1),List.getElem?_append_left (by simp;omega),List.getElem?_reverse (by simp;omega),List.getElem?_drop]
  congr 1;simp;omega
 ·
  rw [List.getElem?_append_right (by simp;omega)]
  by_cases h2:l.length - i≤j
  ·
   rw [if_pos (.inr h2),List.getElem?_append_right (by simp;omega),List.getElem?_reverse (by simp;omega),List.getElem?_take,if_pos (by simp;omega)]
   congr 1;simp;omega
  ·
   rw [if_neg (by omega),List.getElem?_append_left (by simp;omega),List.getElem?_take,if_pos (by simp;omega),List.getElem?_drop]
   congr 1;simp;omega
theorem revAt_len {l:List S39} {i:Nat} (hi:2 * i≤l.length):(revAt l i).length=l.length:=by
 unfold revAt;simp;omega
theorem revAt_step {l:List S39} {i:Nat} (h:2 * i + 1 < l.length) :
  (((revAt l i).set i (rd_T39 (revAt l i) ((l.length - 1 - i:Nat):Int))).set (l.length - 1 - i) (rd_T39 (revAt l i) (i:Int)))=revAt l (i + 1):=by
 have e1:rd_T39 (revAt l i) ((l.length - 1 - i:Nat):Int)=l[l.length - 1 - i]:=by
  rw [rd39_get (by rw [revAt_len (by omega)];omega)]
  have:=revAt_get (l:=l) (i:=i) (j:=l.length - 1 - i) (by omega) (by omega)
  rw [if_neg (by omega),List.getElem?_eq_getElem (by rw [revAt_len (by omega)];omega),List.getElem?_eq_getElem (by omega)] at this
  exact Option.some.inj this
 have e2:rd_T39 (revAt l i) (i:Int)=l[i]:=by
  rw [rd39_get (by rw [revAt_len (by omega)];omega)]
  have:=revAt_get (l:=l) (i:=i) (j:=i) (by omega) (by omega)
  rw [if_neg (by omega),List.getElem?_eq_getElem (by rw [revAt_len (by omega)];omega),List.getElem?_eq_getElem (by omega)] at this
  exact Option.some.inj this
 rw [e1,e2]
 apply List.ext_getElem?
 intro j
 by_cases hj:j < l.length
 ·
  rw [revAt_get (by omega) hj,List.getElem?_set,List.getElem?_set,revAt_get (by omega) hj]
  simp only [List.length_set,revAt_len (show 2 * i≤l.length by omega)]
  by_cases h1:l.length - 1 - i=j
  ·
   rw [if_pos h1,if_pos (by omega),if_pos (by omega)]
   rw [List.getElem?_eq_getElem (by omega)];congr 2;omega
  ·
   rw [if_neg h1]
   by_cases h2:i=j
   ·
    subst h2
    rw [if_pos rfl,if_pos (by omega),if_pos (by omega),List.getElem?_eq_getElem (by omega)]
   ·
    rw [if_neg h2]
    by_cases h3:j < i ∨ l.length - i≤j
    ·
     rw [if_pos h3,if_pos (by omega)]
    ·
     rw [if_neg h3,if_neg (by omega)]
 ·
  rw [List.getElem?_eq_none (by simp [revAt_len (show 2 * i≤l.length by omega)];omega),List.getElem?_eq_none (by rw [revAt_len (by omega)];omega)]
theorem revAt_end {l:List S39} {i:Nat} (h:l.length≤2 * i + 1) (hi:2 * i≤l.length):revAt l i=l.reverse:=by
 apply List.ext_getElem?
 intro j
 by_cases hj:j < l.length
 ·
  rw [revAt_get hi hj,List.getElem?_reverse hj]
  by_cases h1:j < i ∨ l.length - i≤j
  ·
   rw [if_pos h1]
  ·
   rw [if_neg h1];congr 1;omega
 ·
  rw [List.getElem?_eq_none (by rw [revAt_len hi];omega),List.getElem?_eq_none (by simp;omega)]
theorem rev_ev {l:List S39} (hn:l.length≤100000):Ev (fun k=>api_Move.f k l) l.reverse:=by
 have h:∀ d i:Nat,l.length - 2 * i≤d→2 * i≤l.length + 1→Ev (fun k=>api_Move.l0 k (if 2 * i≤l.length then revAt l i else l.reverse) (i:Int) ((l.length:Int) - 1 - i)) l.reverse:=by
  intro d
  induction d with
  | zero =>
   intro i hd hi
   refine Ev.step (fun k=>by rw [api_Move.l0]) (evNeg (by omega) ?_)
   by_cases h:2 * i≤l.length
   ·
    rw [if_pos h,revAt_end (by omega) h];exact Ev.now _
   ·
    rw [if_neg h];exact Ev.now _
  | succ d ih =>
   intro i hd hi
   by_cases hlt:2 * i + 1 < l.length
   ·
    rw [if_pos (by omega)]
    have hl:=revAt_len (l:=l) (i:=i) (by omega)
    refine Ev.step (fun k=>by rw [api_Move.l0]) (evPos (by omega) (evPos (by omega) (evPos (by rw [hl];omega) (evPos (by omega) (evPos (by rw [hl];omega) ?_)))))
    have e1:((l.length:Int) - 1 - i).toNat=l.length - 1 - i:=by omega
    have e2:((l.length:Int) - 1 - i)=((l.length - 1 - i:Nat):Int):=by omega
    have:=ih (i + 1) (by omega) (by omega)
    have hs:=revAt_step hlt
    rw [Go.IntWalk.wrap64_in _ (show (-9223372036854775808:Int)≤(i:Int) + 1∧(i:Int) + 1≤9223372036854775807 by omega),Go.IntWalk.wrap64_in _ (show (-9223372036854775808:Int)≤(l.length:Int) - 1 - i - 1∧(l.length:Int) - 1 - i - 1≤9223372036854775807 by omega),e1,e2,Int.toNat_natCast]
    have e3:((l.length - 1 - i:Nat):Int) - 1=(l.length:Int) - 1 - ((i + 1:Nat):Int):=by omega
    rw [e3]
    have hs':((revAt l i).set i ⟨(rd_T39 (revAt l i) ((l.length - 1 - i:Nat):Int)).f0,(rd_T39 (revAt l i) ((l.length - 1 - i:Nat):Int)).f1,(rd_T39 (revAt l i) ((l.length - 1 - i:Nat):Int)).f2⟩).set (l.length - 1 - i) ⟨(rd_T39 (revAt l i) (i:Int)).f0,(rd_T39 (revAt l i) (i:Int)).f1,(rd_T39 (revAt l i) (i:Int)).f2⟩=revAt l (i + 1):=hs
    rw [hs']
    rw [if_pos (by omega)] at this
    exact this
   ·
    refine Ev.step (fun k=>by rw [api_Move.l0]) (evNeg (by omega) ?_)
    by_cases h:2 * i≤l.length
    ·
     rw [if_pos h,revAt_end (by omega) h];exact Ev.now _
    ·
     rw [if_neg h];exact Ev.now _
 have:=h l.length 0 (by omega) (by omega)
 rw [if_pos (by omega)] at this
 have e0:revAt l 0=l:=by unfold revAt;simp
 rw [e0] at this
 refine Ev.congr (fun k=>?_) this
 unfold api_Move.f
 rw [Go.IntWalk.wrap64_in _ (by omega)]
 show _=api_Move.l0 k l (0:Int) ((l.length:Int) - 1 - (0:Int))
 rw [Int.sub_zero]
/-- Which blocks the row takes: its own alone. -/
theorem R39_tight {e:Nat} {w:World} {base:Nat} {ok:Nat→Prop} {v:Value} {xs:List S39} (h:Kd.R k39 e w base ok v xs):Kd.R k39 e w base (fun k=>some k=v.ownBlock) v xs:=by
 obtain ⟨h0,inner,ho,hr⟩:=h
 exact ⟨fun k hk=>hk.symm,inner,ho,hr.imp_ fun x cs hM=>by rw [k39_openM hM];exact k39_mkM _ _ _ x⟩
def chainedM (l:List S39) (i:Nat):List S39:=(l.take (i + 1)).reverse ++ (l.drop (i + 1)).reverse
set_option maxHeartbeats 8000000 in
set_option maxRecDepth 100000 in
theorem chained_calls (A0:Option Addr) (c0:Nat) (l:List S39) (i:Nat) (w:World) (hr0:Kd.C k39 w A0 l.length l) (hc0:l.length≤c0) (hl0:l.length≤1000) (hi:i < l.length) :
  Calls Try.prog 87 #[.slice A0 l.length c0,.int .i64 i] w (RowPost w (chainedM l i)):=by
 have hhead:=Kd.C_take (m:=i + 1) hr0 (by omega)
 have htail:=Kd.C_drop (m:=i + 1) (c:=l.length) hr0 (by omega) (by omega)
 have lh:(l.take (i + 1)).length=i + 1:=by rw [List.length_take];omega
 have lt:(l.drop (i + 1)).length=l.length - (i + 1):=List.length_drop
 generalize hAT:(if l.length=i + 1 then A0 else A0.map (·.add ((i + 1) * k39.sz)))=AT at htail
 have h1:∀ W:World,(Instr.slice 29 (.slice A0 l.length c0) none (some (.int .i64 ((i:Int) + 1))) (some (.int .i64 ((i:Int) + 1)))).run Try.prog W = .ok (.slice A0 (l.take (i + 1)).length (i + 1)) W:=by
  intro W
  have hel:Try.prog.elem 29=39:=by simp [Program.elem,Try.underlying29]
  have hu:Try.prog.underlying 29=some (.slice (Try.prog.elem 29)):=by rw [hel];exact Try.underlying29
  obtain ⟨i0,hi0,_⟩:=info_parts info39
  rw [run_slice_hm W 29 A0 l.length c0 hu .i64 .i64 _ _ (by omega) (by omega) (by omega),hel,lh]
  simp [sizeOf,typeInfo,hi0,sliced,Result.andThen]
  cases A0 <;> simp [Addr.add]
 have h2:∀ W:World,(Instr.slice 29 (.slice A0 l.length c0) (some (.int .i64 ((i:Int) + 1))) (some (.int .i64 (l.length:Int))) (some (.int .i64 (l.length:Int)))).run Try.prog W = .ok (.slice AT (l.drop (i + 1)).length (l.length - (i + 1))) W:=by
  intro W
  have hel:Try.prog.elem 29=39:=by simp [Program.elem,Try.underlying29]
  have hu:Try.prog.underlying 29=some (.slice (Try.prog.elem 29)):=by rw [hel];exact Try.underlying29
  obtain ⟨i0,hi0,_,hz,_⟩:=info_parts info39
  rw [run_slice_lhm W 29 A0 l.length c0 hu .i64 .i64 .i64 _ _ _ (by omega) (by omega) (by omega) (by omega),hel,lt,← hAT]
  simp [sizeOf,typeInfo,hi0,hz,sliced,Result.andThen]
  rfl
 have HH:=zF hhead
 have HT:=zF htail
 have hw1:IntKind.i64.wrap ((i:Int) + 1)=(i:Int) + 1:=Go.IntWalk.i64_in _ (by omega)
 have lh1:(l.take (i + 1)).length≤1000:=by omega
 have lt1:(l.drop (i + 1)).length≤1000:=by omega
 have HL1:=zF (show (l.take (i + 1)).length≤1000∧(l.drop (i + 1)).length≤1000 from ⟨lh1,lt1⟩)
 obtain ⟨K1,hK1⟩:=(rev_ev (l:=l.take (i + 1)) (by omega)).rounds
 obtain ⟨K2,hK2⟩:=(rev_ev (l:=l.drop (i + 1)) (by omega)).rounds
 have HK1:=zF hK1
 have HK2:=zF hK2
 have HBd:=zF (show i + 1≤l.length∧l.length≤c0 from ⟨hi,hc0⟩)
 unfold chainedM
 clear hK1 hK2 hhead htail lh lt hAT hr0 lh1 lt1
 generalize l.take (i + 1)=lH at *
 generalize l.drop (i + 1)=lT at *
 go_enter Try.func87,Try.ntmps87
 go_wp2
 go_quiet (fail)
 clear h1 h2 hw1
 have tok1:True:=trivial
 go_wp2_with (first
  | (go_at_call 94;have _t:=tok1;(with_reducible refine (cloneM_calls A0 (i + 1) lH _ (Kd.C_drewN HH.out _) (by have:=HL1.out;omega)).mono ?_);rintro e w1 ⟨v1,rfl,hr,hb⟩;have HB1:Aside0 (Below w.heap.size w w1):=⟨(pw_below_drewN (Below.refl _ w) _).trans hb⟩;have HR1:Aside0 (Kd.R k39 39 w1 w.heap.size (fun k=>some k=v1.ownBlock) v1 lH):=⟨R39_tight hr⟩;clear hr hb tok1 _t;have tok2:True:=trivial)
  | (go_at_call 94;have _t:=tok2;(with_reducible refine (cloneM_calls AT (l.length - (i + 1)) lT _ (Kd.C_below HT.out HB1.out) (by have:=HL1.out;omega)).mono ?_);rintro e w2 ⟨v2,rfl,hr,hb⟩;have HB2:=zF (below_step HB1.out hb);have HR2:Aside0 (Kd.R k39 39 w2 w1.heap.size (fun k=>some k=v2.ownBlock) v2 lT):=⟨R39_tight hr⟩;have HR1b:=zF (Kd.R_below HR1.out hb);have HLt:=zF (fun k (hk:v1.ownBlock=some k)=>own_lt HR1.out.2.choose_spec.1 k hk);clear hr hb tok2 _t;have tok3:True:=trivial)
  | (go_at_call 95;have _t:=tok3;(with_reducible refine (api_Move.calls K1 (fun k=>some k=v1.ownBlock) v1 lH lH.reverse w _ HB2.out HR1b.out HK1.out).mono ?_);rintro e w3 ⟨rfl,hr,hb,hk⟩;have HB3:=zF hb;have HR1c:=zF (R39_tight hr);have HR2b:Aside0 (Kd.R k39 39 w3 w1.heap.size (fun k=>some k=v2.ownBlock) v2 lT):=⟨Kd.R_kept HR2.out hk (fun k hk2 hk1=>by have:=own_base HR2.out.2.choose_spec.1 k hk2.symm;have:=HLt.out k hk1.symm;omega)⟩;clear hr hb hk tok3 _t;have tok4:True:=trivial)
  | (go_at_call 95;have _t:=tok4;(with_reducible refine (api_Move.calls K2 (fun k=>some k=v2.ownBlock) v2 lT lT.reverse w _ HB3.out (Kd.R_lower HR2b.out HB1.out.size) HK2.out).mono ?_);rintro e w4 ⟨rfl,hr,hb,hk⟩;have HB4:=zF hb;have HR2c:=zF (Kd.R_reads (R39_tight hr));have HR1d:Aside0 (Kd.R k39 39 w4 w.heap.size (fun k=>some k=v1.ownBlock) v1 lH.reverse):=⟨Kd.R_kept HR1c.out hk (fun k hk2 hk1=>by have:=own_base HR2b.out.2.choose_spec.1 k hk1.symm;have:=HLt.out k hk2.symm;omega)⟩;clear hr hb hk tok4 _t;obtain ⟨A2,c2,e2,l2,r2⟩:=HR2c.out;rw [List.length_reverse] at e2 l2 r2;subst e2;have HA2:=zF r2;clear r2 HR2c)
  | ((with_reducible refine gate_builtin (b:=.append) (xs:=#[.tmp 29,.tmp 30]) rfl ?_);at_builtin;refine Kd.R_append_rows k39 (w0:=w) w.heap.size rfl (.tmp 29) (.tmp 30) 29 39 (.agg #[(.int .i64 0),(.int .i64 0),(.int .i64 0)]) 24 rfl Try.underlying29 info39 rfl (by decide) (by omega) v1 lH.reverse lT.reverse _ _ _ (fun _=>True) (fun _=>False) rfl rfl (Kd.R_mono HR1d.out (fun _ _=>trivial)) HA2.out (fun x cs h=>k39_KM _ _ x cs h) (fun _ h=>h.elim) (fun _ _=>trivial) HB4.out HB4.out.size (by have:=HL1.out;simp;omega) ?_;intro v5 w5 ho hb hg hat;have HO5:=zF ho;have HB5:=zF hb;clear ho hb hg hat))
 go_ret
 exact ⟨_,rfl,HO5.out,HB5.out⟩
end Go.Proofs.Ytjgnkhfgmpaljaa.P
namespace Go.Proofs.Ytjgnkhfgmpaljaa.P
open Go.RowKit Go.Proofs.YtjgnkhfgmpaljaaW.PrintWords Go.Proofs.YtjgnkhfgmpaljaaW.PrintLast Go.Proofs.YtjgnkhfgmpaljaaW.PrintMore Go.Proofs.Ytjgnkhfgmpaljaa.M
set_option linter.unusedVariables false
set_option linter.unusedSimpArgs false
def mvS (s:GS) (p:Int):S39:=⟨(rd_T41 s.P p).f0,(rd_T41 s.P p).f1,wantS s p⟩
def movesS (s:GS) (l:List Int):List S39:=l.map (mvS s)
def freeZ (s:GS) (l:List Int):Nat→Int
 | 0=>-1
 | k + 1=>if holdsS s (wantS s (rd l (k:Int)))=true then freeZ s l k else k
def lastF (x:List S39):Int:=(rd_T39 x ((x.length:Int) - 1)).f1
def putM (x:List S39):List S47→List S47
 | []=>[⟨true,x⟩]
 | r :: l=>if r.f0=true∧lastF r.f1=(rd_T39 x 0).f2 then ⟨r.f0,r.f1 ++ x⟩ :: l else r :: putM x l
def recordS (s:GS) (l:List Int):List S47 :=
 if freeZ s l l.length < 0 then if 1 < l.length then s.rg ++ [⟨false,movesS s l⟩] else s.rg
 else putM (chainedM (movesS s l) (freeZ s l l.length).toNat) s.rg
/-- No ring is empty, none is long. -/
def RgOk (c:Nat) (l:List S47):Prop:=l.length≤c∧∀ r ∈ l,r.f1≠[]∧r.f1.length≤64 * c
theorem freeZ_lt (s:GS) (l:List Int):∀ k,freeZ s l k < k∧-1≤freeZ s l k
 | 0=>by unfold freeZ;omega
 | k + 1=>by
  have:=freeZ_lt s l k
  unfold freeZ
  split <;> omega
theorem movesS_snoc (s:GS) {l:List Int} {i:Nat} (h:i < l.length):movesS s (l.take (i + 1))=movesS s (l.take i) ++ [mvS s (rd l (i:Int))]:=by
 unfold movesS
 rw [List.take_succ_eq_append_getElem h,List.map_append,rd_get h];rfl
theorem movesS_len (s:GS) (l:List Int):(movesS s l).length=l.length:=by unfold movesS;simp
/-- The blocks that record may write. -/
def RecW (W:World) (a:GA) (k:Nat):Prop:=k=a.g ∨ ∃ q,(q=47 ∨ q=39)∧∃ cells,W.heap[k]? = some (.cells cells q (0,0))
theorem recW_map {W:World} {a:GA} {s:GS} {vR:Value} {w0:World} (h:GAt w0 W a s vR) {b n:Nat} {f:Value→Option Value} (hm:MapAt W Try.prog 3 b f n):¬ RecW W a b:=by
 obtain ⟨es,clock,hb,_⟩:=hm
 rintro (e|⟨q,_,cells,hc⟩)
 ·
  rw [e,h.blk] at hb;cases hb
 ·
  rw [hb] at hc;cases hc
theorem recW_row {W:World} {a:GA} {s:GS} {vR:Value} {w0:World} (h:GAt w0 W a s vR) {k t:Nat} {cells:Array Value} (hk:W.heap[k]? = some (.cells cells t (0,0))) (ht:t=3 ∨ t=4):¬ RecW W a k:=by
 rintro (e|⟨q,hq,cells',hc⟩)
 ·
  rw [e,h.blk] at hk
  injection hk with hk;injection hk with _ hk
  rcases ht with ht|ht <;> rw [ht] at hk <;> exact absurd hk (by decide)
 ·
  rw [hk] at hc
  injection hc with hc;injection hc with _ hc
  rcases ht with ht|ht <;> rcases hq with hq|hq <;> rw [ht,hq] at hc <;> exact absurd hc (by decide)
theorem R_recW {W W2:World} {a:GA} {s:GS} {vR:Value} {w0:World} (h:GAt w0 W a s vR) (hk:Kept W W2 (RecW W a)) {k:IntKind} {base:Nat} {v:Value} {xs:List Int} (hr:Kd.R (Kd.int k) 3 W base (fun _=>True) v xs):Kd.R (Kd.int k) 3 W2 base (fun _=>True) v xs:=by
 refine Kd.R_mono (Kd.R_kept (Kd.R_bound hr) hk (fun k hk=>?_)) (fun _ _=>trivial)
 obtain ⟨_,_,_,q,hq,cells,hc⟩:=hk
 refine recW_row h hc (.inl ?_)
 have:q ∈ [3]:=hq
 simpa using this
theorem GAt.upd {w0 W w2:World} {a:GA} {s:GS} {vR v2:Value} {rg':List S47} (h:GAt w0 W a s vR) (hk:Kept W w2 (RecW W a)) (hb:Below w0.heap.size w0 w2)
  (hblk:w2.heap[a.g]? = some (.cells (gcells a s v2) 78 (0,0))) (hS:Kd.S k47 47 w2 w0.heap.size (fun _=>True) v2 rg'):GAt w0 w2 a { s with rg:=rg' } v2:=by
 refine ⟨hb,hblk,h.gb,h.tb,h.kb,h.par,h.parc,h.ord,h.ordc,?_,?_,?_,R_recW h hk h.tos,hS,h.ne⟩
 ·
  obtain ⟨n,hn⟩:=h.ten
  exact ⟨n,hn.move (hk.2 _ hn.lt (recW_map h hn))⟩
 ·
  refine Kd.R_mono (Kd.R_kept (Kd.R_bound h.gone) hk (fun k hk=>?_)) (fun _ _=>trivial)
  obtain ⟨_,_,_,q,hq,cells,hc⟩:=hk
  refine recW_row h hc (.inr ?_)
  have:q ∈ [4]:=hq
  simpa using this
 ·
  obtain ⟨n,hn⟩:=h.tak
  exact ⟨n,hn.move (hk.2 _ hn.lt (recW_map h hn))⟩
def RecPost (w0 w:World) (a:GA) (s:GS) (rg':List S47) (e:Ending) (w':World):Prop :=
 e = .returned (.tuple #[])∧∃ v:Value,GAt w0 w' a { s with rg:=rg' } v∧Kept w w' (RecW w a)
/-- The rings' slice written back, behind an append to it. -/
theorem GAt.putR {w0 W w1:World} {a:GA} {s:GS} {vR v1:Value} {rg':List S47} (h:GAt w0 W a s vR) (hg:W.grownBy w1 vR.ownBlock) (hb:Below w0.heap.size w0 w1) (hS:Kd.S k47 47 w1 w0.heap.size (fun _=>True) v1 rg') :
  GAt w0 (w1.setCell ⟨a.g,7,none⟩ v1) a { s with rg:=rg' } v1∧Kept W (w1.setCell ⟨a.g,7,none⟩ v1) (RecW W a):=by
 have hk1:Kept W w1 (RecW W a):=Kept.of_grown hg (Kept.refl _ _) (fun k hk=>.inl (.inr ⟨47,.inl rfl,Kd.S_typed h.rg k hk⟩))
 have hk2:Kept W (w1.setCell ⟨a.g,7,none⟩ v1) (RecW W a):=hk1.setCell (.inl (.inl rfl)) v1
 have hb1:w1.heap[a.g]? = some (.cells (gcells a s vR) 78 (0,0)):=(hg.block a.g h.lt (Kd.S_ne h.rg h.blk (by decide))).trans h.blk
 have hblk:(w1.setCell ⟨a.g,7,none⟩ v1).heap[a.g]? = some (.cells (gcells a s v1) 78 (0,0)):=blk_put hb1 7 v1 rfl
 exact ⟨h.upd hk2 (hb.setCell h.gb _) hblk (Kd.S_set hS hb1 (by decide) 7 v1),hk2⟩
theorem recW_back {w W:World} {a:GA} {k:Nat} (hb:Below w.heap.size w W) (h:RecW W a k):RecW w a k ∨ w.heap.size≤k:=by
 by_cases hk:k < w.heap.size
 ·
  refine .inl ?_
  rcases h with e|⟨q,hq,cells,hc⟩
  ·
   exact .inl e
  ·
   exact .inr ⟨q,hq,cells,by rw [← hb.block k hk];exact hc⟩
 ·
  exact .inr (by omega)
theorem kept_back {w W w2:World} {a:GA} (hb:Below w.heap.size w W) (h:Kept W w2 (RecW W a)):Kept w w2 (RecW w a) :=
 (Kept.of_below hb _).then_ h (fun k hk=>recW_back hb hk)
theorem putM_step (x:List S39) (l:List S47) (i:Nat) (h:i < l.length):putM x (l.drop i)=if (rd_T47 l (i:Int)).f0=true∧lastF (rd_T47 l (i:Int)).f1=(rd_T39 x 0).f2 then ⟨(rd_T47 l (i:Int)).f0,(rd_T47 l (i:Int)).f1 ++ x⟩ :: l.drop (i + 1) else rd_T47 l (i:Int) :: putM x (l.drop (i + 1)):=by
 have e:rd_T47 l (i:Int)=l[i]:=by
  unfold rd_T47
  rw [Int.toNat_natCast,List.getD_eq_getElem?_getD,List.getElem?_eq_getElem h];rfl
 rw [List.drop_eq_getElem_cons h,e];rfl
theorem rd47_mem {l:List S47} {i:Nat} (h:i < l.length):rd_T47 l (i:Int) ∈ l:=by
 have e:rd_T47 l (i:Int)=l[i]:=by
  unfold rd_T47
  rw [Int.toNat_natCast,List.getD_eq_getElem?_getD,List.getElem?_eq_getElem h];rfl
 rw [e];exact List.getElem_mem h
theorem putM_put (x:List S39) (l:List S47) (i:Nat) (h:i < l.length) (hp:putM x l=l.take i ++ putM x (l.drop i)) (hc:(rd_T47 l (i:Int)).f0=true∧lastF (rd_T47 l (i:Int)).f1=(rd_T39 x 0).f2) :
  putM x l=l.set i ⟨(rd_T47 l (i:Int)).f0,(rd_T47 l (i:Int)).f1 ++ x⟩:=by
 rw [hp,putM_step x l i h,if_pos hc,List.set_eq_take_append_cons_drop,if_pos h]
theorem putM_skip (x:List S39) (l:List S47) (i:Nat) (h:i < l.length) (hp:putM x l=l.take i ++ putM x (l.drop i)) (hc:¬ ((rd_T47 l (i:Int)).f0=true∧lastF (rd_T47 l (i:Int)).f1=(rd_T39 x 0).f2)) :
  putM x l=l.take (i + 1) ++ putM x (l.drop (i + 1)):=by
 have e:rd_T47 l (i:Int)=l[i]:=by
  unfold rd_T47
  rw [Int.toNat_natCast,List.getD_eq_getElem?_getD,List.getElem?_eq_getElem h];rfl
 rw [hp,putM_step x l i h,if_neg hc,List.take_succ_eq_append_getElem h,e,List.append_assoc];rfl
theorem putM_end (x:List S39) (l:List S47) (hp:putM x l=l.take l.length ++ putM x (l.drop l.length)):putM x l=l ++ [⟨true,x⟩]:=by
 rw [hp,List.drop_length,List.take_length];rfl
/-- A ring that goes on: its row appended to, and written back. -/
theorem GAt.ring_more {w0 wr wx w2:World} {a:GA} {s:GS} {gR cR g1 c1 j:Nat} {mv:List S39} {r:S47} {oki:Nat→Prop} {v2:Value} {cells:Array Value} (h:GAt w0 wr a s (.slice (some ⟨gR,0,none⟩) s.rg.length cR)) (hj:j < s.rg.length)
  (hgR:wr.heap[gR]? = some (.cells cells 47 (0,0))) (hR1:Kd.R k39 39 wr w0.heap.size oki (.slice (some ⟨g1,0,none⟩) r.f1.length c1) r.f1)
  (hH:Kd.H k47 47 wr w0.heap.size (fun _=>True) (.slice (some ⟨gR,0,none⟩) s.rg.length cR) s.rg (j:Int) oki [.bool r.f0,.slice (some ⟨g1,0,none⟩) r.f1.length c1])
  (hbx:Below wr.heap.size wr wx) (hg:wx.grownBy w2 (some g1)) (hb2:Below w0.heap.size w0 w2) (ho:Kd.R k39 39 w2 w0.heap.size (fun k=>oki k ∨ True∧wx.heap.size≤k) v2 (r.f1 ++ mv)) :
  GAt w0 (w2.setCell ⟨gR,j * 2 + 1,none⟩ v2) a { s with rg:=s.rg.set j ⟨r.f0,r.f1 ++ mv⟩ } (.slice (some ⟨gR,0,none⟩) s.rg.length cR)∧Kept wr (w2.setCell ⟨gR,j * 2 + 1,none⟩ v2) (RecW wr a) ∧
   w2.heap[gR]? = wr.heap[gR]?∧w2.heap[a.g]? = wr.heap[a.g]?:=by
 have hn1:gR≠g1:=fun e=>by
  have:=Kd.R_ne hR1 hgR (by decide)
  exact this (by rw [e];simp [Value.ownBlock])
 have hn2:a.g≠g1:=fun e=>by
  have:=Kd.R_ne hR1 h.blk (by decide)
  exact this (by rw [e];simp [Value.ownBlock])
 have hn3:a.g≠gR:=blk_ne h.blk hgR (by decide)
 have e1:w2.heap[gR]? = wr.heap[gR]?:=(hg.block gR (Nat.lt_of_lt_of_le (blk_lt hgR) hbx.size) (fun e=>hn1 (Option.some.inj e))).trans (hbx.block gR (blk_lt hgR))
 have e2:w2.heap[a.g]? = wr.heap[a.g]?:=(hg.block a.g (Nat.lt_of_lt_of_le h.lt hbx.size) (fun e=>hn2 (Option.some.inj e))).trans (hbx.block a.g h.lt)
 have hHx:=Kd.H_grown (Kd.H_widen (Kd.H_below hH hbx)) hg (fun k hk=>.inl (hR1.1 k (by rw [← hk];simp [Value.ownBlock])))
 have hb0:w0.heap.size≤gR:=Kd.S_base h.rg gR (by simp [Value.ownBlock])
 have hS:=(Kd.S_seg (okg:=fun _=>False) (Kd.H_mono hHx (ok':=fun k=>True∧¬ False) (fun k hk=>⟨hk,not_false⟩)) (by omega) (by omega) (seg:=[v2]) (j:=1) (show 1 + 1≤2 from Nat.le_refl _) (x':=⟨r.f0,r.f1 ++ mv⟩)
  (k47_mkM w2 w0.heap.size (fun k=>oki k ∨ True∧wx.heap.size≤k) ⟨r.f0,r.f1 ++ mv⟩ ho) (fun k hk=>.inl hk) (fun k hk=>hk.elim)).1
 have hS':Kd.S k47 47 (w2.setCell ⟨gR,j * 2 + 1,none⟩ v2) w0.heap.size (fun _=>True) (.slice (some ⟨gR,0,none⟩) s.rg.length cR) (s.rg.set j ⟨r.f0,r.f1 ++ mv⟩):=hS
 have hk:Kept wr (w2.setCell ⟨gR,j * 2 + 1,none⟩ v2) (RecW wr a):=by
  refine Kept.setCell (Kept.of_grown hg (Kept.of_below hbx _) (fun k hk=>?_)) (.inl (.inr ⟨47,.inl rfl,cells,hgR⟩)) v2
  cases hk
  obtain ⟨cells1,hc1⟩:=own_typed hR1.2.choose_spec.1 g1 (by simp [Value.ownBlock])
  exact .inl (.inr ⟨39,.inr rfl,cells1,hc1⟩)
 refine ⟨h.upd hk (hb2.setCell hb0 _) ?_ hS',hk,e1,e2⟩
 exact blk_far (e2.trans h.blk) hn3 v2
end Go.Proofs.Ytjgnkhfgmpaljaa.P
