/- Lemmas, readings of functions as plain Lean functions and contracts of functions of the program, for the claimed theorem; each one's conditions stand in its statement. -/
import Derived.Test.YtjgnkhfgmpaljaaQTD24
import Derived.Test.YtjgnkhfgmpaljaaQTD7
import Derived.Test.YtjgnkhfgmpaljaaQTD9
import Derived.Test.YtjgnkhfgmpaljaaQTD25
namespace Go.Proofs.Ytjgnkhfgmpaljaa.P
open Go.RowKit Go.Proofs.YtjgnkhfgmpaljaaW.PrintWords Go.Proofs.YtjgnkhfgmpaljaaW.PrintLast Go.Proofs.YtjgnkhfgmpaljaaW.PrintMore Go.Proofs.Ytjgnkhfgmpaljaa.M
open Go.Proofs.Ytjgnkhfgmpaljaa
set_option linter.unusedVariables false
set_option linter.unusedSimpArgs false
/-- The reference's lists tell a plain state. -/
structure RB (P:List S41) (ord:List Int) (gone:List Bool) (tos tak:List Int) (A:T.Asg):Prop where
  gl:gone.length=P.length
  tl:tos.length=P.length
  hgone:∀ p,p < P.length→gone.getD p false=(A p).isSome
  htos:∀ p:Nat,p < P.length→rd tos (p:Int)=(A p).getD 0
  htak:∀ f,f≠0→(f ∈ tak ↔ T.takenB (datG P ord) A f=true)
  tn:tak.length≤1000000
theorem inZ_idx2 {x:Int}:∀ (l:List Int) (k:Nat),x ∈ l→inZ x k l=((k + l.idxOf x:Nat):Int)
  | a :: l,k,h=>by
    unfold inZ
    by_cases e:a=x
    · subst e;simp
    · rw [if_neg e,inZ_idx2 l (k + 1) ((List.mem_cons.1 h).resolve_left (fun h=>e h.symm)),List.idxOf_cons]
      have hb:(a == x)=false:=by simpa using e
      rw [hb];simp;omega
theorem rank_len2 {P:List S41} {p:Nat} (h:(wantsP P p).length≤64):(rankL (ownP P p) (wantsP P p)).length≤1000:=by
  unfold rankL
  have:=(List.takeWhile_sublist (l:=wantsP P p) (fun f=>decide (f≠ownP P p))).length_le
  simp only [List.length_append,List.length_singleton];omega
section
variable {F:List S53} {P:List S41} {ord:List Int} {gone:List Bool} {tos tak:List Int} {A:T.Asg}
theorem best_loop (F:List S53) (P:List S41) (ord:List Int) (gone:List Bool) (tos tak:List Int) (l:List Int) (hl:l.length≤1000000) (ht:tak.length≤1000000):∀ d i:Nat,d=l.length - i→i≤l.length →
    Ev (fun k=>cohousingref24_best.l0 k l (i:Int) F P ord gone tos tak) (((l.drop i).find? fun f=>decide (f=0) || decide (f ∉ tak)).getD 0):=by
  intro d
  induction d with
  | zero =>
    intro i hd hi
    obtain rfl:i=l.length:=by omega
    rw [List.drop_length]
    show Ev _ 0
    exact Ev.step (fun k=>by rw [cohousingref24_best.l0]) (evNeg (by omega) (Ev.now _))
  | succ d ih =>
    intro i hd hi
    have hlt:i < l.length:=by omega
    have h2:=ih (i + 1) (by omega) (by omega)
    rw [dropc hlt,List.find?_cons]
    refine Ev.step (fun k=>by rw [cohousingref24_best.l0]) (evPos (by omega) (evPos (by omega) ?_))
    by_cases h0:rd l (i:Int)=0
    · rw [decide_eq_true h0,Bool.true_or]
      exact evPos h0 (Ev.now _)
    · refine evNeg h0 (Ev.bind (in_ev tak _ ht) ?_)
      rw [decide_eq_false h0,Bool.false_or]
      by_cases hm:rd l (i:Int) ∈ tak
      · rw [decide_eq_false (by simpa using hm)]
        refine evNeg (fun h=>(inZ_neg _ _ 0).1 h hm) ?_
        rw [wrap_succ hlt (by omega)];exact h2
      · rw [decide_eq_true hm]
        exact evPos ((inZ_neg _ _ 0).2 hm) (Ev.now _)
theorem best_ev (hF:Fine P ord) (hI:T.Inv (datG P ord) A) (hB:RB P ord gone tos tak A) {p:Nat} (hp:p < P.length) (ha:A p=none):Ev (fun k=>cohousingref24_best.f k F P ord gone tos tak (p:Int)) (T.want (datG P ord) A p):=by
  have hwf:=fine_wf hF
  have hw:=(hF.ok _ (rd41_mem hp)).1
  have hrl:=rank_len2 (P:=P) (p:=p) hw
  refine evPos (by omega) (evPos (by omega) (Ev.bind (ranking_ev _ _ _ (by omega)) ?_))
  have h1:=best_loop F P ord gone tos tak (rankL (ownP P p) (wantsP P p)) (by omega) hB.tn _ 0 rfl (Nat.zero_le _)
  rw [List.drop_zero] at h1
  have e:((rankL (ownP P p) (wantsP P p)).find? fun f=>decide (f=0) || decide (f ∉ tak))=((datG P ord).rank p).find? (T.goodB (datG P ord) A p):=by
    refine T.find_ext fun x hx=>?_
    unfold T.goodB
    by_cases h0:x=0
    · have ho:(datG P ord).own p=0:=T.zero_own hwf hp (by rw [← h0];exact hx)
      rw [decide_eq_true h0,Bool.true_or,ho,decide_eq_true h0,Bool.true_or]
    · rw [decide_eq_false h0,Bool.false_or]
      by_cases ho:x=(datG P ord).own p
      · rw [decide_eq_true ho,Bool.true_or]
        have:=hI.free p hp ha (by rw [← ho];exact h0)
        rw [← ho] at this
        have hnm:x ∉ tak:=fun hm=>by rw [(hB.htak x h0).1 hm] at this;cases this
        exact decide_eq_true hnm
      · rw [decide_eq_false ho,Bool.false_or]
        cases ht:T.takenB (datG P ord) A x with
        | true=>rw [decide_eq_false (by simpa using (hB.htak x h0).2 ht)];rfl
        | false =>
          have hnm:x ∉ tak:=fun hm=>by rw [(hB.htak x h0).1 hm] at ht;cases ht
          rw [decide_eq_true hnm];rfl
  unfold T.want
  rw [← e]
  exact h1
def natZ:Option Nat→Int
  | some t=>(t:Int)
  | none=>-1
theorem rdOf_gone {p:Nat} (h:p < gone.length):rdOf false gone (p:Int)=gone.getD p false:=by unfold rdOf;rw [Int.toNat_natCast]
theorem tenant_ev (hB:RB P ord gone tos tak A) (hP:P.length≤1000000) (f:Int):Ev (fun k=>cohousingref24_tenant.f k F P ord gone tos tak f) (natZ (T.tenant (datG P ord) A f)):=by
  have h:∀ d i:Nat,d=P.length - i→i≤P.length→Ev (fun k=>cohousingref24_tenant.l0 k f (i:Int) F P ord gone tos tak) (natZ ((List.range' i d).find? fun t=>decide (ownP P t=f) && (A t).isNone)):=by
    intro d
    induction d with
    | zero =>
      intro i hd hi
      obtain rfl:i=P.length:=by omega
      show Ev _ (-1)
      exact Ev.step (fun k=>by rw [cohousingref24_tenant.l0]) (evNeg (by omega) (Ev.now _))
    | succ d ih =>
      intro i hd hi
      have hlt:i < P.length:=by omega
      have h2:=ih (i + 1) (by omega) (by omega)
      have hgl:=hB.gl
      rw [List.range'_succ,List.find?_cons]
      refine Ev.step (fun k=>by rw [cohousingref24_tenant.l0]) (evPos (by omega) (evPos (by omega) ?_))
      by_cases ho:ownP P i=f
      · rw [decide_eq_true ho,Bool.true_and]
        refine evPos ho (evPos (by omega) ?_)
        rw [rdOf_gone (by omega),hB.hgone i hlt]
        cases ha:A i with
        | none=>exact evNeg (by decide) (Ev.now _)
        | some x=>refine evPos rfl ?_;rw [wrap_succ hlt (by omega)];exact h2
      · rw [decide_eq_false ho,Bool.false_and]
        refine evNeg ho ?_
        rw [wrap_succ hlt (by omega)];exact h2
  have:=h P.length 0 rfl (Nat.zero_le _)
  rw [← List.range_eq_range'] at this
  exact this
theorem first_loop (hB:RB P ord gone tos tak A) (hF:Fine P ord):∀ d i:Nat,d=ord.length - i→i≤ord.length→Ev (fun k=>cohousingref24_first.l0 k (i:Int) F P ord gone tos tak) (natZ (((ord.drop i).map Int.toNat).find? fun p=>(A p).isNone)):=by
  intro d
  induction d with
  | zero =>
    intro i hd hi
    obtain rfl:i=ord.length:=by omega
    rw [List.drop_length]
    show Ev _ (-1)
    exact Ev.step (fun k=>by rw [cohousingref24_first.l0]) (evNeg (by omega) (Ev.now _))
  | succ d ih =>
    intro i hd hi
    have hlt:i < ord.length:=by omega
    have h2:=ih (i + 1) (by omega) (by omega)
    have hol:=hF.ol;have hn:=hF.n;have hgl:=hB.gl
    obtain ⟨q0,q1⟩:=hF.ob _ (rd_mem (l:=ord) (i:=i) hlt)
    obtain ⟨p,hp⟩:∃ p:Nat,rd ord (i:Int)=p:=⟨(rd ord (i:Int)).toNat,by omega⟩
    rw [dropc hlt,List.map_cons,List.find?_cons]
    refine Ev.step (fun k=>by rw [cohousingref24_first.l0]) (evPos (by omega) (evPos (by omega) (evPos (by omega) (evPos (by omega) ?_))))
    rw [hp,Int.toNat_natCast,rdOf_gone (by omega),hB.hgone p (by omega)]
    cases ha:A p with
    | none=>exact evNeg (by decide) (Ev.now _)
    | some x=>refine evPos rfl ?_;rw [wrap_succ hlt (by omega)];exact h2
theorem first_ev (hB:RB P ord gone tos tak A) (hF:Fine P ord):Ev (fun k=>cohousingref24_first.f k F P ord gone tos tak) (natZ ((datG P ord).order.find? fun p=>(A p).isNone)):=by
  have:=first_loop (F:=F) hB hF _ 0 rfl (Nat.zero_le _)
  rw [List.drop_zero] at this
  exact this
theorem owner_ev (hB:RB P ord gone tos tak A) (hF:Fine P ord) {p:Nat} (hp:p < P.length) (ha:A p=none) (f:Int):Ev (fun k=>cohousingref24_owner.f k F P ord gone tos tak f) (T.owner (datG P ord) A f:Int):=by
  have hn:=hF.n
  refine Ev.bind (tenant_ev hB (by omega) f) ?_
  unfold T.owner
  cases ht:T.tenant (datG P ord) A f with
  | some t=>exact evPos (by simp [natZ]) (Ev.now _)
  | none =>
    refine evNeg (by simp [natZ]) (Ev.bind (first_ev hB hF) ?_)
    cases hf:(datG P ord).order.find? fun p=>(A p).isNone with
    | none=>exact absurd ha ((T.find_none (fine_wf hF)).1 hf p hp)
    | some q =>
      have:T.first (datG P ord) A=q:=by unfold T.first;rw [hf];rfl
      rw [Option.getD_none,this]
      exact Ev.now _
theorem next_ev (hB:RB P ord gone tos tak A) (hF:Fine P ord) (hI:T.Inv (datG P ord) A) (hW:T.Wants (datG P ord) A) {q:Nat} (hq:q < P.length) (ha:A q=none) {α:Type} {r:α} {g:Nat→Int→Option α} (hg:Ev (fun k=>g k (T.next (datG P ord) A q:Int)) r) :
    Ev (fun k=>(cohousingref24_best.f k F P ord gone tos tak (q:Int)).bind fun t1=>(cohousingref24_owner.f k F P ord gone tos tak t1).bind fun t2=>g k t2) r:=by
  refine Ev.bind (best_ev hF hI hB hq ha) (Ev.bind (owner_ev hB hF hq ha _) ?_)
  rw [T.next_want (hW q hq ha)] at hg
  exact hg
def cycR:Option (List Nat)→List Int
  | some C=>ints C
  | none=>[]
theorem mem_ints {C:List Nat} {x:Nat}:(x:Int) ∈ ints C ↔ x ∈ C:=by
  unfold ints
  rw [List.mem_map]
  constructor
  · rintro ⟨y,hy,e⟩;rwa [show x=y by omega]
  · intro h;exact ⟨x,h,rfl⟩
theorem walk_ev (hB:RB P ord gone tos tak A) (hF:Fine P ord) (hI:T.Inv (datG P ord) A) (hW:T.Wants (datG P ord) A) {p:Nat}:∀ (k:Nat) (path:List Nat) (at_:Nat),path.Nodup→(∀ x ∈ path,x < P.length)→k + path.length=P.length + 2→at_ < P.length→A at_=none →
    Ev (fun k=>cohousingref24_cycle.l0 k (p:Int) (ints path) (at_:Int) F P ord gone tos tak) (cycR (T.walk (datG P ord) A p k path at_))
  | 0,path,at_,hnd,hlt,hk,h1,h2=>by have:=T.nodup_bd _ _ hnd hlt;omega
  | k + 1,path,at_,hnd,hlt,hk,h1,h2=>by
    have hn:=T.next_of (fine_wf hF) h1 h2
    have hpl:=T.nodup_bd _ _ hnd hlt
    have hn64:=hF.n
    unfold T.walk
    refine Ev.step (fun k=>by rw [cohousingref24_cycle.l0]) ?_
    by_cases e:at_=p
    · rw [if_pos e]
      exact evPos (by rw [e]) (Ev.now _)
    · rw [if_neg e]
      refine evNeg (by omega) (Ev.bind (in_ev (ints path) (at_:Int) (by rw [ints_len];omega)) ?_)
      by_cases hx:at_ ∈ path
      · rw [if_pos hx]
        refine evPos ?_ (Ev.now _)
        rw [inZ_idx2 _ 0 (mem_ints.2 hx)];omega
      · rw [if_neg hx]
        have hneg:=(inZ_neg (at_:Int) (ints path) 0).2 (fun h=>hx (mem_ints.1 h))
        refine evNeg (by omega) (evPos (by rw [ints_len];omega) (next_ev hB hF hI hW h1 h2 ?_))
        have ih:=walk_ev hB hF hI hW (p:=p) k (path ++ [at_]) _ (List.nodup_append.2 ⟨hnd,by simp,fun a ha b hb e=>hx (by rw [List.mem_singleton] at hb;rw [← hb,← e];exact ha)⟩)
          (fun x hxm=>(List.mem_append.1 hxm).elim (hlt x) (fun h=>by rw [List.mem_singleton] at h;rw [h];exact h1)) (by rw [List.length_append,List.length_singleton];omega) hn.1 hn.2
        have e2:ints (path ++ [at_])=ints path ++ [(at_:Int)]:=by unfold ints;rw [List.map_append];rfl
        rw [e2] at ih
        exact ih
theorem cycle_ev (hB:RB P ord gone tos tak A) (hF:Fine P ord) (hI:T.Inv (datG P ord) A) (hW:T.Wants (datG P ord) A) {p:Nat} (hp:p < P.length) (ha:A p=none):Ev (fun k=>cohousingref24_cycle.f k F P ord gone tos tak (p:Int)) (cycR (T.cycleAt (datG P ord) A p)):=by
  have hn:=T.next_of (fine_wf hF) hp ha
  refine next_ev hB hF hI hW hp ha ?_
  exact walk_ev hB hF hI hW (P.length + 1) [p] _ (by simp) (fun x hx=>by rw [List.mem_singleton] at hx;rw [hx];exact hp) (by simp) hn.1 hn.2
/-! ring -/
def mvW (P:List S41) (ord:List Int) (A:T.Asg) (p:Nat):S39:=⟨(rd_T41 P (p:Int)).f0,(rd_T41 P (p:Int)).f1,T.want (datG P ord) A p⟩
def freeK (D:T.Dat) (A:T.Asg) (C:List Nat) (i:Nat):Option Nat:=(List.range i).foldl (fun r j=>if (T.tenant D A (T.want D A (C.getD j 0))).isNone then some j else r) none
theorem freeK_succ (D:T.Dat) (A:T.Asg) (C:List Nat) (i:Nat):freeK D A C (i + 1)=if (T.tenant D A (T.want D A (C.getD i 0))).isNone then some i else freeK D A C i:=by
  unfold freeK;rw [List.range_succ,List.foldl_append];rfl
/-- What ring gives: whether it is a chain, the moves, whether it is one. -/
def ringW (P:List S41) (ord:List Int) (A:T.Asg) (C:List Nat):Bool × List S39 × Bool :=
  match T.freeI (datG P ord) A C with
  | none=>(false,C.map (mvW P ord A),decide (1 < C.length) || ((rd_T39 (C.map (mvW P ord A)) 0).f1 != (rd_T39 (C.map (mvW P ord A)) 0).f2))
  | some i=>(true,(T.chained C i).map (mvW P ord A),true)
theorem ring1_ev (l:List S39) (fr:Nat) (hl:l.length≤1000) (hf:fr < l.length):∀ d i:Nat,d=l.length - i→i≤l.length→∀ out:List S39,out.length=i →
    Ev (fun k=>cohousingref24_ring.l1 k l (fr:Int) out (i:Int)) (true,out ++ (List.range' i d).map (fun j=>rd_T39 l (((fr + l.length - j) % l.length:Nat):Int)),true):=by
  intro d
  induction d with
  | zero =>
    intro i hd hi out ho
    obtain rfl:i=l.length:=by omega
    rw [List.range'_zero,List.map_nil,List.append_nil]
    exact Ev.step (fun k=>by rw [cohousingref24_ring.l1]) (evNeg (by omega) (Ev.now _))
  | succ d ih =>
    intro i hd hi out ho
    have hlt:i < l.length:=by omega
    have e1:wrap64 (wrap64 ((fr:Int) - (i:Int)) + (l.length:Int))=((fr + l.length - i:Nat):Int):=by
      rw [show wrap64 ((fr:Int) - (i:Int))=(fr:Int) - (i:Int) from by unfold wrap64;omega]
      unfold wrap64;omega
    have e2:Int.tmod (wrap64 (wrap64 ((fr:Int) - (i:Int)) + (l.length:Int))) (l.length:Int)=(((fr + l.length - i) % l.length:Nat):Int):=by
      rw [e1,Int.tmod_eq_emod_of_nonneg (by omega)];rfl
    have hm:(fr + l.length - i) % l.length < l.length:=Nat.mod_lt _ (by omega)
    have h2:=ih (i + 1) (by omega) (by omega) (out ++ [rd_T39 l (((fr + l.length - i) % l.length:Nat):Int)]) (by simp [ho])
    rw [List.range'_succ,List.map_cons]
    rw [List.append_assoc] at h2
    refine Ev.step (fun k=>by rw [cohousingref24_ring.l1]) (evPos (by omega) (evNeg (by omega) ?_))
    rw [e2]
    refine evPos (by omega) (evPos (by omega) (evPos (by omega) ?_))
    rw [wrap_succ hlt (by omega)]
    exact h2
theorem chained_rows {C:List Nat} {i:Nat} (hi:i < C.length) (g:Nat→S39):(List.range C.length).map (fun j=>rd_T39 (C.map g) (((i + (C.map g).length - j) % (C.map g).length:Nat):Int))=(T.chained C i).map g:=by
  have hl:=T.chained_len C i
  refine List.ext_getElem (by simp [hl]) (fun m h1 h2=>?_)
  have hm:m < C.length:=by simpa using h1
  rw [List.getElem_map,List.getElem_range,List.getElem_map]
  have h3:=T.chained_get hi hm
  rw [List.getD_eq_getElem?_getD,List.getElem?_eq_getElem (by omega),Option.getD_some,List.getD_eq_getElem?_getD,List.getElem?_eq_getElem (Nat.mod_lt _ (by omega)),Option.getD_some] at h3
  rw [h3]
  have hk:(i + C.length - m) % C.length < C.length:=Nat.mod_lt _ (by omega)
  rw [List.length_map,rd39_get (by rw [List.length_map];exact hk),List.getElem_map]
theorem ring_ev (hB:RB P ord gone tos tak A) (hF:Fine P ord) (hI:T.Inv (datG P ord) A) {C:List Nat} (hC:∀ p ∈ C,p < P.length∧A p=none) (h0:0 < C.length) (hl:C.length≤1000):Ev (fun k=>cohousingref24_ring.f k F P ord gone tos tak (ints C)) (ringW P ord A C):=by
  have hn64:=hF.n
  have h:∀ d i:Nat,d=C.length - i→i≤C.length→Ev (fun k=>cohousingref24_ring.l0 k (ints C) ((C.take i).map (mvW P ord A)) (natZ (freeK (datG P ord) A C i)) (i:Int) F P ord gone tos tak) (ringW P ord A C):=by
    intro d
    induction d with
    | zero =>
      intro i hd hi
      obtain rfl:i=C.length:=by omega
      have hml:(C.map (mvW P ord A)).length=C.length:=by simp
      rw [List.take_length]
      refine Ev.step (fun k=>by rw [cohousingref24_ring.l0]) (evNeg (by rw [ints_len];omega) ?_)
      unfold ringW
      have hfe:freeK (datG P ord) A C C.length=T.freeI (datG P ord) A C:=rfl
      rw [hfe]
      cases hfr:T.freeI (datG P ord) A C with
      | none =>
        refine evPos (by simp [natZ]) ?_
        by_cases h1:1 < C.length
        · rw [decide_eq_true h1,Bool.true_or]
          exact evPos (by rw [hml];omega) (Ev.now _)
        · rw [decide_eq_false h1,Bool.false_or]
          exact evNeg (by rw [hml];omega) (evPos (by rw [hml];omega) (Ev.now _))
      | some j =>
        have hj:=(T.free_some hfr).1
        refine evNeg (by simp [natZ]) ?_
        have:=ring1_ev (C.map (mvW P ord A)) j (by omega) (by omega) _ 0 rfl (Nat.zero_le _) [] rfl
        rw [List.nil_append,Nat.sub_zero,← List.range_eq_range'] at this
        rw [hml] at this
        have e:=chained_rows hj (mvW P ord A)
        rw [hml] at e
        rw [e] at this
        exact this
    | succ d ih =>
      intro i hd hi
      have hlt:i < C.length:=by omega
      have hp:C.getD i 0 ∈ C:=T.getD_mem hlt
      obtain ⟨hp1,hp2⟩:=hC _ hp
      have h2:=ih (i + 1) (by omega) (by omega)
      have e1:rd (ints C) (i:Int)=(C.getD i 0:Int):=rd_ints hlt
      have e2:C.take (i + 1)=C.take i ++ [C.getD i 0]:=by
        rw [List.take_succ_eq_append_getElem hlt,List.getD_eq_getElem?_getD,List.getElem?_eq_getElem hlt];rfl
      have hil:=ints_len C
      rw [e2,List.map_append,freeK_succ] at h2
      refine Ev.step (fun k=>by rw [cohousingref24_ring.l0]) (evPos (by omega) (evPos (by omega) ?_))
      rw [e1]
      refine evPos (by omega) (evPos (by omega) (Ev.bind (best_ev hF hI hB hp1 hp2) (evPos (by rw [List.length_map,List.length_take];omega) (evSome rfl (Ev.bind (tenant_ev hB (by omega) _) ?_)))))
      rw [wrap_succ hlt (by omega)]
      cases ht:T.tenant (datG P ord) A (T.want (datG P ord) A (C.getD i 0)) with
      | none =>
        rw [ht] at h2
        exact evPos (by simp [natZ]) h2
      | some t =>
        rw [ht] at h2
        exact evNeg (by simp [natZ]) h2
  exact h C.length 0 rfl (Nat.zero_le _)
end
end Go.Proofs.Ytjgnkhfgmpaljaa.P
