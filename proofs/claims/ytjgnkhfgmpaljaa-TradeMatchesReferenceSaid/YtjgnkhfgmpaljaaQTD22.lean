/- Lemmas, readings of functions as plain Lean functions and contracts of functions of the program, for the claimed theorem; each one's conditions stand in its statement. -/
import Derived.Test.YtjgnkhfgmpaljaaQTD20
import Derived.Test.YtjgnkhfgmpaljaaQTD21
namespace Go.Proofs.Ytjgnkhfgmpaljaa.P
open Go.RowKit Go.Proofs.YtjgnkhfgmpaljaaW.PrintWords Go.Proofs.YtjgnkhfgmpaljaaW.PrintLast Go.Proofs.YtjgnkhfgmpaljaaW.PrintMore Go.Proofs.Ytjgnkhfgmpaljaa.M
open Go.Proofs.Ytjgnkhfgmpaljaa
set_option linter.unusedVariables false
set_option linter.unusedSimpArgs false
def ownP (P:List S41) (p:Nat):Int:=(rd_T41 P (p:Int)).f1
def wantsP (P:List S41) (p:Nat):List Int:=(rd_T41 P (p:Int)).f2
def rankL (own:Int) (l:List Int):List Int:=l.takeWhile (fun f=>decide (f≠own)) ++ [own]
def datG (P:List S41) (ord:List Int):T.Dat:=⟨P.length,ownP P,fun p=>rankL (ownP P p) (wantsP P p),ord.map Int.toNat⟩
/-- What a valid market and an order of its parties come to. -/
structure Fine (P:List S41) (ord:List Int):Prop where
 n:P.length≤64
 inj:∀ p q,p < P.length→q < P.length→ownP P p=ownP P q→ownP P p≠0→p=q
 nz:∀ p,p < P.length→(0:Int) ∉ wantsP P p
 nd:∀ p,p < P.length→(wantsP P p).Nodup
 ob:∀ x ∈ ord,0≤x∧x < P.length
 oa:∀ p:Nat,p < P.length→(p:Int) ∈ ord
 ol:ord.length=P.length
 ok:∀ x ∈ P,x.f2.length≤64∧okI x.f1∧∀ f ∈ x.f2,okI f
theorem tw_ne {own f:Int}:∀ {l:List Int},f ∈ l.takeWhile (fun f=>decide (f≠own))→f≠own
 | [],h=>by cases h
 | a :: l,h=>by
  by_cases ha:a=own
  ·
   rw [List.takeWhile_cons,if_neg (by simpa using ha)] at h;cases h
  ·
   rw [List.takeWhile_cons,if_pos (by simpa using ha)] at h
   rcases List.mem_cons.1 h with e|h
   ·
    rw [e];exact ha
   ·
    exact tw_ne h
theorem fine_wf {P:List S41} {ord:List Int} (h:Fine P ord):T.WF (datG P ord):=by
 refine ⟨h.inj,fun p hp=>⟨_,rfl,fun hm=>?_,fun hm=>?_,?_⟩,fun p hp=>?_,fun p hp=>?_⟩
 ·
  exact tw_ne hm rfl
 ·
  exact h.nz p hp ((List.takeWhile_sublist _).subset hm)
 ·
  exact (List.takeWhile_sublist _).nodup (h.nd p hp)
 ·
  exact List.mem_map.2 ⟨_,h.oa p hp,by simp⟩
 ·
  obtain ⟨x,hx,rfl⟩:=List.mem_map.1 hp
  have:=h.ob x hx
  show x.toNat < P.length
  omega
def mvOf (P:List S41) (A:T.Asg) (p:Nat):S39:=⟨(rd_T41 P (p:Int)).f0,(rd_T41 P (p:Int)).f1,(A p).getD 0⟩
def ringOf (P:List S41) (A:T.Asg) (r:T.Rg):S47:=⟨r.1,r.2.map (mvOf P A)⟩
/-- The game and the plain state go together. -/
structure Bd (P:List S41) (ord:List Int) (s:GS) (t:T.St):Prop where
 hP:s.P=P
 ho:s.ord=ord
 ten:s.ten=tenK P P.length
 gl:s.gone.length=P.length
 tl:s.tos.length=P.length
 gone:∀ p,p < P.length→s.gone.getD p false=(t.A p).isSome
 tos:∀ p:Nat,p < P.length→rd s.tos (p:Int)=(t.A p).getD 0
 tak:∀ f,f≠0→(s.tak f).getD false=T.takenB (datG P ord) t.A f
 rg:s.rg=t.l.map (ringOf P t.A)
section
variable {P:List S41} {ord:List Int} {s:GS} {t:T.St}
theorem wantZ_rank {own:Int} {tak:Int→Option Bool} {D:T.Dat} {A:T.Asg} {p:Nat} (ho:D.own p=own):∀ {l:List Int},(0:Int) ∉ l→(∀ f,f≠0→(tak f).getD false=T.takenB D A f) →
  ((rankL own l).find? (T.goodB D A p)).getD 0=wantZ own tak l
 | [],_,_=>by
  have hg:T.goodB D A p own=true:=by unfold T.goodB;simp [ho]
  unfold rankL;simp [List.find?,hg,wantZ]
 | f :: l,h0,ht=>by
  have hg:T.goodB D A p own=true:=by unfold T.goodB;simp [ho]
  have ih:=wantZ_rank (tak:=tak) (A:=A) ho (fun h=>h0 (List.mem_cons_of_mem _ h)) ht (l:=l)
  by_cases hf:f=own
  ·
   unfold wantZ rankL
   rw [if_pos hf,List.takeWhile_cons,if_neg (by simpa using hf)]
   simp [List.find?,hg]
  ·
   have hf0:f≠0:=fun e=>h0 (by rw [← e];exact List.mem_cons_self)
   have hgf:T.goodB D A p f = !T.takenB D A f:=by unfold T.goodB;simp [ho,hf]
   unfold wantZ
   rw [if_neg hf]
   unfold rankL at ih ⊢
   rw [List.takeWhile_cons,if_pos (by simpa using hf),List.cons_append,List.find?_cons,hgf,ht f hf0]
   cases T.takenB D A f with
   | true=>simpa using ih
   | false=>simp
theorem want_bind (hF:Fine P ord) (hB:Bd P ord s t) {p:Nat} (hp:p < P.length):wantS s (p:Int)=T.want (datG P ord) t.A p:=by
 unfold wantS T.want
 rw [hB.hP]
 exact (wantZ_rank (D:=datG P ord) (p:=p) rfl (hF.nz p hp) hB.tak).symm
theorem left_bind (hB:Bd P ord s t) {p:Nat} (hp:p < P.length):leftS s (p:Int)=(t.A p).isNone:=by
 unfold leftS
 rw [Int.toNat_natCast,hB.gone p hp]
 cases t.A p <;> rfl
theorem tenK_iff (h:Fine P ord) {f:Int} (h0:f≠0):∀ k,k≤P.length→∀ x,tenK P k f=some x ↔ ∃ j:Nat,j < k∧x=j∧ownP P j=f
 | 0,_,x=>by simp [tenK]
 | k + 1,hk,x=>by
  have ih:=tenK_iff h h0 k (by omega) x
  unfold tenK
  by_cases hz:((rd_T41 P (k:Int)).f1 != 0)=true
  ·
   rw [if_pos hz]
   by_cases hf:f=(rd_T41 P (k:Int)).f1
   ·
    simp only [if_pos hf]
    constructor
    ·
     intro e;cases e;exact ⟨k,by omega,rfl,hf.symm⟩
    ·
     rintro ⟨j,hj,rfl,ho⟩
     have:j=k:=h.inj j k (by omega) (by omega) (by rw [ho];exact hf) (by rw [ho];exact h0)
     rw [this]
   ·
    simp only [if_neg hf]
    rw [ih]
    constructor
    ·
     rintro ⟨j,hj,e,ho⟩;exact ⟨j,by omega,e,ho⟩
    ·
     rintro ⟨j,hj,e,ho⟩
     by_cases hjk:j=k
     ·
      subst hjk;exact absurd ho.symm hf
     ·
      exact ⟨j,by omega,e,ho⟩
  ·
   rw [if_neg hz,ih]
   constructor
   ·
    rintro ⟨j,hj,e,ho⟩;exact ⟨j,by omega,e,ho⟩
   ·
    rintro ⟨j,hj,e,ho⟩
    by_cases hjk:j=k
    ·
     subst hjk
     exfalso
     have:ownP P j=0:=by unfold ownP;simpa using hz
     rw [this] at ho;exact h0 ho.symm
    ·
     exact ⟨j,by omega,e,ho⟩
theorem ten_bind (h:Fine P ord) (hB:Bd P ord s t) {f:Int} (h0:f≠0):(match T.tenant (datG P ord) t.A f with
  | some j=>holdsS s f=true∧s.ten f=some (j:Int)
  | none=>holdsS s f=false):=by
 have hi:=tenK_iff h h0 P.length (Nat.le_refl _)
 cases ht:T.tenant (datG P ord) t.A f with
 | some j =>
  obtain ⟨h1,h2,h3⟩:=T.tenant_inv ht
  have h1:j < P.length:=h1
  have:s.ten f=some (j:Int):=by rw [hB.ten];exact (hi _).2 ⟨j,h1,rfl,h2⟩
  refine ⟨?_,this⟩
  unfold holdsS
  rw [this]
  show (!s.gone.getD ((j:Int)).toNat false)=true
  rw [Int.toNat_natCast,hB.gone j h1,h3];rfl
 | none =>
  show holdsS s f=false
  unfold holdsS
  cases hx:s.ten f with
  | none=>rfl
  | some x =>
   rw [hB.ten] at hx
   obtain ⟨j,hj,rfl,ho⟩:=(hi x).1 hx
   have:=T.tenant_none.1 ht j hj ho
   show (!s.gone.getD ((j:Int)).toNat false)=false
   rw [Int.toNat_natCast,hB.gone j hj]
   cases ha:t.A j with
   | none=>exact absurd ha this
   | some v=>rfl
theorem idxZ_find (pr:Int→Bool):∀ (l:List Int) (k:Nat),(match l.find? pr with
  | none=>idxZ pr k l = -1
  | some x=>∃ i:Nat,idxZ pr k l=(k + i:Nat)∧i < l.length∧l[i]? = some x)
 | [],k=>rfl
 | a :: l,k=>by
  have ih:=idxZ_find pr l (k + 1)
  by_cases h:pr a=true
  ·
   rw [List.find?_cons,h]
   exact ⟨0,by unfold idxZ;rw [if_pos h];simp,by simp,rfl⟩
  ·
   rw [List.find?_cons]
   simp only [Bool.not_eq_true] at h
   rw [h]
   cases hf:l.find? pr with
   | none=>rw [hf] at ih;show idxZ pr k (a :: l) = -1;unfold idxZ;rw [if_neg (by rw [h];decide)];exact ih
   | some x =>
    rw [hf] at ih
    obtain ⟨i,h1,h2,h3⟩:=ih
    exact ⟨i + 1,by unfold idxZ;rw [if_neg (by rw [h];decide),h1];congr 1;omega,by simp;omega,by simpa using h3⟩
theorem find_map_nat {pr:Int→Bool} {q:Nat→Bool}:∀ {l:List Int},(∀ x ∈ l,0≤x∧pr x=q x.toNat)→(l.map Int.toNat).find? q=(l.find? pr).map Int.toNat
 | [],_=>rfl
 | a :: l,h=>by
  rw [List.map_cons,List.find?_cons,List.find?_cons,(h a List.mem_cons_self).2]
  cases q a.toNat with
  | true=>rfl
  | false=>exact find_map_nat (fun x hx=>h x (List.mem_cons_of_mem _ hx))
theorem first_bind (h:Fine P ord) (hB:Bd P ord s t):(match (datG P ord).order.find? fun p=>(t.A p).isNone with
  | none=>firstS s = -1
  | some q=>firstS s=(q:Int)∧q < P.length):=by
 have hm:((ord.map Int.toNat).find? fun p=>(t.A p).isNone)=(ord.find? (leftS s)).map Int.toNat:=find_map_nat (fun x hx=>by
  obtain ⟨h1,h2⟩:=h.ob x hx
  obtain ⟨q,rfl⟩:∃ q:Nat,x=q:=⟨x.toNat,by omega⟩
  exact ⟨h1,by rw [left_bind hB (by omega),Int.toNat_natCast]⟩)
 have hi:=idxZ_find (leftS s) ord 0
 show (match (ord.map Int.toNat).find? fun p=>(t.A p).isNone with
  | none=>firstS s = -1
  | some q=>firstS s=(q:Int)∧q < P.length)
 rw [hm]
 unfold firstS
 rw [hB.ho]
 cases hf:ord.find? (leftS s) with
 | none =>
  rw [hf] at hi
  show (if idxZ (leftS s) 0 ord < 0 then -1 else rd ord (idxZ (leftS s) 0 ord)) = -1
  rw [hi];rfl
 | some x =>
  rw [hf] at hi
  obtain ⟨i,h1,h2,h3⟩:=hi
  have hx:=h.ob x (List.mem_of_find?_eq_some hf)
  refine ⟨?_,by show x.toNat < _;omega⟩
  rw [h1,Nat.zero_add,if_neg (by omega),rd_get h2]
  rw [List.getElem?_eq_getElem h2] at h3
  have:=Option.some.inj h3
  rw [this]
  show x=(x.toNat:Int)
  omega
def ints (l:List Nat):List Int:=l.map fun (x:Nat)=>(x:Int)
theorem owner_bind (h:Fine P ord) (hB:Bd P ord s t) {f:Int} (h0:f≠0) {p:Nat} (hp:p < P.length) (ha:t.A p=none):ownerS s f=(T.owner (datG P ord) t.A f:Int):=by
 have ht:=ten_bind h hB h0
 unfold ownerS T.owner
 cases htt:T.tenant (datG P ord) t.A f with
 | some j =>
  rw [htt] at ht
  rw [if_pos ht.1,ht.2];rfl
 | none =>
  rw [htt] at ht
  have hh:holdsS s f=false:=ht
  rw [if_neg (by rw [hh];decide)]
  have hf:=first_bind h hB
  unfold T.first
  cases hq:(datG P ord).order.find? fun p=>(t.A p).isNone with
  | none =>
   have:=(T.find_none (fine_wf h)).1 hq p hp
   exact absurd ha this
  | some q=>rw [hq] at hf;exact hf.1
theorem next_bind (h:Fine P ord) (hB:Bd P ord s t) (hW:T.Wants (datG P ord) t.A) {p:Nat} (hp:p < P.length) (ha:t.A p=none):nextS s (p:Int)=(T.next (datG P ord) t.A p:Int):=by
 have h0:=hW p hp ha
 unfold nextS
 rw [want_bind h hB hp,T.next_want h0]
 exact owner_bind h hB h0 hp ha
theorem walk_bind (h:Fine P ord) (hB:Bd P ord s t) (hW:T.Wants (datG P ord) t.A) {p:Nat} (hp:p < P.length):∀ (k:Nat) (path:List Nat) (at_:Nat),at_ < P.length→t.A at_=none →
  walkS s (p:Int) k (ints path) (at_:Int)=(T.walk (datG P ord) t.A p k path at_).map ints
 | 0,_,_,_,_=>rfl
 | k + 1,path,at_,h1,h2=>by
  have hn:=T.next_of (fine_wf h) h1 h2
  have ih:=walk_bind h hB hW hp k (path ++ [at_]) _ hn.1 hn.2
  unfold walkS T.walk
  by_cases e:at_=p
  ·
   rw [if_pos e,if_pos (by rw [e])];rfl
  ·
   rw [if_neg e,if_neg (by omega)]
   have hm:hasB (ints path) (at_:Int)=true ↔ at_ ∈ path:=by
    unfold ints
    rw [hasB_iff,List.mem_map]
    constructor
    ·
     rintro ⟨x,hx,e⟩;rwa [show at_=x by omega]
    ·
     intro hx;exact ⟨_,hx,rfl⟩
   by_cases hx:at_ ∈ path
   ·
    rw [if_pos hx,if_pos (hm.2 hx)];rfl
   ·
    rw [if_neg hx,if_neg (fun e=>hx (hm.1 e)),next_bind h hB hW h1 h2,← ih];unfold ints;rw [List.map_append];rfl
theorem cycleAt_bind (h:Fine P ord) (hB:Bd P ord s t) (hW:T.Wants (datG P ord) t.A) {p:Nat} (hp:p < P.length) (ha:t.A p=none) :
  cycleAtS s (p:Int)=(T.cycleAt (datG P ord) t.A p).map ints:=by
 have hn:=T.next_of (fine_wf h) hp ha
 unfold cycleAtS T.cycleAt
 rw [next_bind h hB hW hp ha,hB.hP]
 exact walk_bind h hB hW hp (P.length + 1) [p] _ hn.1 hn.2
theorem cycL_bind (h:Fine P ord) (hB:Bd P ord s t) (hW:T.Wants (datG P ord) t.A):∀ (l:List Int),(∀ x ∈ l,0≤x∧x < P.length) →
  cycL s l=ints (((l.map Int.toNat).findSome? fun p=>if (t.A p).isSome then none else T.cycleAt (datG P ord) t.A p).getD [])
 | [],_=>rfl
 | x :: l,hl=>by
  have ih:=cycL_bind h hB hW l (fun y hy=>hl y (List.mem_cons_of_mem _ hy))
  obtain ⟨h1,h2⟩:=hl x List.mem_cons_self
  obtain ⟨q,rfl⟩:∃ q:Nat,x=q:=⟨x.toNat,by omega⟩
  have hq:q < P.length:=by omega
  rw [List.map_cons,List.findSome?_cons,Int.toNat_natCast]
  unfold cycL
  rw [left_bind hB hq]
  cases ha:t.A q with
  | some v=>rw [if_neg (by simp)];simp only [Option.isSome_some,if_true];exact ih
  | none =>
   rw [if_pos (by rfl),cycleAt_bind h hB hW hq ha]
   simp only [Option.isSome_none,Bool.false_eq_true,if_false]
   cases T.cycleAt (datG P ord) t.A q with
   | none=>exact ih
   | some C=>rfl
theorem cycle_bind (h:Fine P ord) (hB:Bd P ord s t) (hW:T.Wants (datG P ord) t.A):cycleS s=ints ((T.findC (datG P ord) t.A).getD []):=by
 unfold cycleS T.findC
 rw [hB.ho]
 exact cycL_bind h hB hW ord h.ob
end
end Go.Proofs.Ytjgnkhfgmpaljaa.P
namespace Go.Proofs.Ytjgnkhfgmpaljaa.P
open Go.RowKit Go.Proofs.YtjgnkhfgmpaljaaW.PrintWords Go.Proofs.YtjgnkhfgmpaljaaW.PrintLast Go.Proofs.YtjgnkhfgmpaljaaW.PrintMore Go.Proofs.Ytjgnkhfgmpaljaa.M
open Go.Proofs.Ytjgnkhfgmpaljaa
set_option linter.unusedVariables false
set_option linter.unusedSimpArgs false
section
variable {P:List S41} {ord:List Int} {s:GS} {t:T.St}
theorem rd_ints {C:List Nat} {i:Nat} (h:i < C.length):rd (ints C) (i:Int)=(C.getD i 0:Int):=by
 have hl:i < (ints C).length:=by unfold ints;simpa using h
 unfold rd ints
 rw [Int.toNat_natCast,List.getD_eq_getElem?_getD,List.getD_eq_getElem?_getD,List.getElem?_map,List.getElem?_eq_getElem h];rfl
theorem ints_len (C:List Nat):(ints C).length=C.length:=by unfold ints;simp
theorem goK_get (g:List Bool) (C:List Nat):∀ k,k≤C.length→∀ p,(∀ q ∈ C,q < g.length)→p < g.length→(goK (ints C) g k).getD p false=(g.getD p false || decide (p ∈ C.take k))
 | 0,_,p,_,_=>by simp [goK]
 | k + 1,hk,p,hC,hp=>by
  have ih:=goK_get g C k (by omega) p hC hp
  have hkC:k < C.length:=by omega
  unfold goK
  rw [rd_ints hkC,Int.toNat_natCast,List.getD_eq_getElem?_getD,List.getElem?_set]
  have htk:p ∈ C.take (k + 1) ↔ p ∈ C.take k ∨ p=C.getD k 0:=by
   rw [List.take_succ_eq_append_getElem hkC,List.mem_append,List.mem_singleton,List.getD_eq_getElem?_getD,List.getElem?_eq_getElem hkC];rfl
  by_cases e:C.getD k 0=p
  ·
   rw [if_pos e,if_pos (by rw [goK_len];rw [e];exact hp)]
   have hm:p ∈ C.take (k + 1):=htk.2 (.inr e.symm)
   simp [hm]
  ·
   rw [if_neg e,← List.getD_eq_getElem?_getD,ih]
   have h2:(p ∈ C.take (k + 1)) ↔ p ∈ C.take k:=htk.trans ⟨fun h=>h.elim id (fun h=>absurd h.symm e),.inl⟩
   rw [decide_eq_decide.2 h2]
theorem setsL_get (hP:s.P=P) (C:List Nat):∀ k,k≤C.length→∀ p:Nat,(∀ q ∈ C,q < s.tos.length)→p < s.tos.length→rd (setsL s (ints C) k) (p:Int)=if p ∈ C.take k then wantS s (p:Int) else rd s.tos (p:Int)
 | 0,_,p,_,_=>by simp [setsL]
 | k + 1,hk,p,hC,hp=>by
  have ih:=setsL_get hP C k (by omega) p hC hp
  have hkC:k < C.length:=by omega
  have hq:=hC _ (T.getD_mem hkC)
  unfold setsL
  rw [rd_ints hkC,Int.toNat_natCast,rd_setnat (by rw [setsL_len];exact hq) _ (by omega)]
  have htk:p ∈ C.take (k + 1) ↔ p ∈ C.take k ∨ p=C.getD k 0:=by
   rw [List.take_succ_eq_append_getElem hkC,List.mem_append,List.mem_singleton,List.getD_eq_getElem?_getD,List.getElem?_eq_getElem hkC];rfl
  by_cases e:p=C.getD k 0
  ·
   rw [if_pos (by rw [e]),if_pos (htk.2 (.inr e)),e]
  ·
   rw [if_neg (by omega),ih]
   by_cases hm:p ∈ C.take k
   ·
    rw [if_pos hm,if_pos (htk.2 (.inl hm))]
   ·
    rw [if_neg hm,if_neg (fun h=>(htk.1 h).elim hm e)]
theorem takK_get (tos:List Int) (C:List Nat) (tk:Int→Option Bool) (f:Int):∀ k,k≤C.length→((takK tos (ints C) tk k f).getD false=true ↔ (tk f).getD false=true ∨ ∃ q ∈ C.take k,rd tos (q:Int)=f)
 | 0,_=>by simp [takK]
 | k + 1,hk=>by
  have ih:=takK_get tos C tk f k (by omega)
  have hkC:k < C.length:=by omega
  unfold takK
  rw [rd_ints hkC]
  have htk:∀ q,q ∈ C.take (k + 1) ↔ q ∈ C.take k ∨ q=C.getD k 0:=fun q=>by
   rw [List.take_succ_eq_append_getElem hkC,List.mem_append,List.mem_singleton,List.getD_eq_getElem?_getD,List.getElem?_eq_getElem hkC];rfl
  by_cases e:f=rd tos (C.getD k 0:Int)
  ·
   rw [if_pos e]
   constructor
   ·
    intro _;exact .inr ⟨_,(htk _).2 (.inr rfl),e.symm⟩
   ·
    intro _;rfl
  ·
   rw [if_neg e,ih]
   constructor
   ·
    rintro (h|⟨q,hq,hr⟩)
    ·
     exact .inl h
    ·
     exact .inr ⟨q,(htk q).2 (.inl hq),hr⟩
   ·
    rintro (h|⟨q,hq,hr⟩)
    ·
     exact .inl h
    ·
     rcases (htk q).1 hq with hq|rfl
     ·
      exact .inr ⟨q,hq,hr⟩
     ·
      exact absurd hr.symm e
/-- Rings' members keep what they have. -/
theorem ring_same {A A':T.Asg} {l:List T.Rg} (h:∀ r ∈ l,∀ p ∈ r.2,A' p=A p):l.map (ringOf P A')=l.map (ringOf P A):=by
 refine List.map_congr_left fun r hr=>?_
 unfold ringOf
 congr 1
 refine List.map_congr_left fun p hp=>?_
 unfold mvOf
 rw [h r hr p hp]
theorem moves_bind (h:Fine P ord) (hB:Bd P ord s t) {C:List Nat} (hC:∀ p ∈ C,p < P.length∧t.A p=none):movesS s (ints C)=C.map (mvOf P (T.exec (datG P ord) t.A C)):=by
 unfold movesS ints
 rw [List.map_map]
 refine List.map_congr_left fun p hp=>?_
 show mvS s (p:Int)=_
 unfold mvS mvOf
 rw [hB.hP,want_bind h hB (hC p hp).1,T.exec_in hp];rfl
theorem freeZ_bind (h:Fine P ord) (hB:Bd P ord s t) (hW:T.Wants (datG P ord) t.A) {C:List Nat} (hC:∀ p ∈ C,p < P.length∧t.A p=none):∀ k,k≤C.length →
  freeZ s (ints C) k=(match (List.range k).foldl (fun r i=>if (T.tenant (datG P ord) t.A (T.want (datG P ord) t.A (C.getD i 0))).isNone then some i else r) none with
   | none=>-1
   | some i=>(i:Int))
 | 0,_=>rfl
 | k + 1,hk=>by
  have ih:=freeZ_bind h hB hW hC k (by omega)
  have hkC:k < C.length:=by omega
  obtain ⟨h1,h2⟩:=hC _ (T.getD_mem hkC)
  have hw:=want_bind h hB h1
  have ht:=ten_bind h hB (hW _ h1 h2)
  unfold freeZ
  rw [rd_ints hkC,hw,List.range_succ,List.foldl_append]
  simp only [List.foldl_cons,List.foldl_nil]
  cases hx:T.tenant (datG P ord) t.A (T.want (datG P ord) t.A (C.getD k 0)) with
  | some j =>
   rw [hx] at ht
   rw [if_pos ht.1,ih];simp
  | none =>
   rw [hx] at ht
   have ht:holdsS s _=false:=ht
   rw [if_neg (by rw [ht];decide)];simp
theorem lastF_bind (A:T.Asg) {l:List Nat} (hl:l≠[]):lastF (l.map (mvOf P A))=ownP P (l.getLastD 0):=by
 unfold lastF
 have hp:0 < l.length:=List.length_pos_iff.2 hl
 rw [T.lastD_get hl,List.length_map,show ((l.length:Int) - 1)=((l.length - 1:Nat):Int) by omega,rd39_get (by simp;omega),List.getElem_map,List.getD_eq_getElem?_getD,List.getElem?_eq_getElem (by omega)]
 rfl
theorem putM_bind (A:T.Asg) (x:List Nat) (f:Int) (hf:(rd_T39 (x.map (mvOf P A)) 0).f2=f):∀ (l:List T.Rg),(∀ r ∈ l,r.2≠[])→putM (x.map (mvOf P A)) (l.map (ringOf P A))=(T.putR (datG P ord) f x l).map (ringOf P A)
 | [],_=>rfl
 | r :: l,hl=>by
  have ih:=putM_bind A x f hf l (fun r hr=>hl r (List.mem_cons_of_mem _ hr))
  have hr:=lastF_bind (P:=P) A (hl r List.mem_cons_self)
  rw [List.map_cons]
  unfold putM T.putR
  by_cases hc:r.1=true∧(datG P ord).own (r.2.getLastD 0)=f
  ·
   rw [if_pos (show (ringOf P A r).f0=true∧lastF (ringOf P A r).f1=_ from ⟨hc.1,by rw [hf];show lastF (r.2.map (mvOf P A))=f;rw [hr];exact hc.2⟩),if_pos hc,List.map_cons]
   congr 1
   unfold ringOf
   rw [List.map_append]
  ·
   rw [if_neg (show ¬ ((ringOf P A r).f0=true∧lastF (ringOf P A r).f1=_) from fun h2=>hc ⟨h2.1,by have:=h2.2;rw [hf] at this;rw [← this];exact hr.symm⟩),if_neg hc,List.map_cons,ih]
theorem chained_bind (A:T.Asg) (C:List Nat) (i:Nat):chainedM (C.map (mvOf P A)) i=(T.chained C i).map (mvOf P A):=by
 unfold chainedM T.chained
 rw [List.map_append,List.map_reverse,List.map_reverse,List.map_take,List.map_drop]
theorem record_bind (h:Fine P ord) (hB:Bd P ord s t) (hW:T.Wants (datG P ord) t.A) (hR:T.RI (datG P ord) t) {C:List Nat} (hC:∀ p ∈ C,p < P.length∧t.A p=none) :
  recordS s (ints C)=(T.note (datG P ord) t.A C t.l).map (ringOf P (T.exec (datG P ord) t.A C)):=by
 have hfz:=freeZ_bind h hB hW hC C.length (Nat.le_refl _)
 have hold:s.rg=t.l.map (ringOf P (T.exec (datG P ord) t.A C)):=by
  rw [hB.rg]
  refine (ring_same fun r hr p hp=>T.exec_out fun hm=>?_).symm
  exact (hR.gone r hr p hp).2 (hC p hm).2
 have hmv:=moves_bind h hB hC
 unfold recordS T.note
 rw [ints_len,hfz,hmv,hold]
 show _=(match T.freeI (datG P ord) t.A C with
  | none=>_
  | some i=>_:List T.Rg).map _
 have he:(List.range C.length).foldl (fun r i=>if (T.tenant (datG P ord) t.A (T.want (datG P ord) t.A (C.getD i 0))).isNone then some i else r) none=T.freeI (datG P ord) t.A C:=rfl
 rw [he]
 cases hf:T.freeI (datG P ord) t.A C with
 | none =>
  show (if (-1:Int) < 0 then _ else _)=_
  rw [if_pos (by decide)]
  by_cases h1:1 < C.length
  ·
   rw [if_pos h1]
   show _=(if 1 < C.length then t.l ++ [(false,C)] else t.l).map _
   rw [if_pos h1,List.map_append];rfl
  ·
   rw [if_neg h1]
   show _=(if 1 < C.length then t.l ++ [(false,C)] else t.l).map _
   rw [if_neg h1]
 | some i =>
  obtain ⟨hi,_⟩:=T.free_some hf
  show (if ((i:Nat):Int) < 0 then _ else putM (chainedM _ ((i:Int)).toNat) _)=(T.putR _ _ _ _).map _
  rw [if_neg (by omega),Int.toNat_natCast,chained_bind]
  refine putM_bind _ _ _ ?_ _ (fun r hr=>(hR.ne r hr).1)
  have h0:0 < C.length:=by omega
  have hl:0 < (T.chained C i).length:=by rw [T.chained_len];exact h0
  have:=rd39_get (l:=(T.chained C i).map (mvOf P (T.exec (datG P ord) t.A C))) (i:=0) (by simpa using hl)
  rw [show ((0:Nat):Int)=0 from rfl] at this
  rw [this,List.getElem_map]
  have hg:(T.chained C i)[0]=C.getD i 0:=by
   have h2:=T.chained_get hi h0
   rw [List.getD_eq_getElem?_getD,List.getElem?_eq_getElem hl] at h2
   simp only [Option.getD_some] at h2
   rw [h2]
   congr 1
   rw [Nat.sub_zero,Nat.add_mod_right,Nat.mod_eq_of_lt hi]
  rw [hg]
  unfold mvOf
  rw [T.exec_in (T.getD_mem hi)];rfl
theorem done_bind (h:Fine P ord) (hB:Bd P ord s t) (hW:T.Wants (datG P ord) t.A) (hR:T.RI (datG P ord) t) {C:List Nat} (hC:∀ p ∈ C,p < P.length∧t.A p=none) :
  Bd P ord (doneS s (ints C)) ⟨T.exec (datG P ord) t.A C,T.note (datG P ord) t.A C t.l⟩:=by
 have htl:∀ q ∈ C,q < s.tos.length:=fun q hq=>by rw [hB.tl];exact (hC q hq).1
 have hset:∀ p:Nat,p < P.length→rd (setsL s (ints C) (ints C).length) (p:Int)=if p ∈ C then wantS s (p:Int) else rd s.tos (p:Int):=fun p hp=>by
  rw [ints_len,setsL_get hB.hP C C.length (Nat.le_refl _) p htl (by rw [hB.tl];exact hp),List.take_length]
 refine ⟨hB.hP,hB.ho,hB.ten,(goK_len _ _ _).trans hB.gl,(setsL_len _ _ _).trans hB.tl,fun p hp=>?_,fun p hp=>?_,fun f h0=>?_,record_bind h hB hW hR hC⟩
 ·
  show (goK (ints C) s.gone (ints C).length).getD p false=_
  rw [ints_len,goK_get s.gone C C.length (Nat.le_refl _) p (fun q hq=>by rw [hB.gl];exact (hC q hq).1) (by rw [hB.gl];exact hp),List.take_length,hB.gone p hp]
  show _=(T.exec (datG P ord) t.A C p).isSome
  by_cases hm:p ∈ C
  ·
   rw [T.exec_in hm];simp [hm]
  ·
   rw [T.exec_out hm];simp [hm]
 ·
  show rd (setsL s (ints C) (ints C).length) (p:Int)=(T.exec (datG P ord) t.A C p).getD 0
  rw [hset p hp]
  by_cases hm:p ∈ C
  ·
   rw [if_pos hm,T.exec_in hm,want_bind h hB hp];rfl
  ·
   rw [if_neg hm,T.exec_out hm,hB.tos p hp]
 ·
  show (takK (setsL s (ints C) (ints C).length) (ints C) s.tak (ints C).length f).getD false=T.takenB (datG P ord) (T.exec (datG P ord) t.A C) f
  have h1:=takK_get (setsL s (ints C) (ints C).length) C s.tak f C.length (Nat.le_refl _)
  rw [List.take_length] at h1
  have h2:=T.taken_exec (D:=datG P ord) (A:=t.A) (C:=C) (f:=f) hC
  have:(takK (setsL s (ints C) (ints C).length) (ints C) s.tak C.length f).getD false=true ↔ T.takenB (datG P ord) (T.exec (datG P ord) t.A C) f=true:=by
   rw [h1,h2,hB.tak f h0]
   constructor
   ·
    rintro (h3|⟨q,hq,h3⟩)
    ·
     exact .inl h3
    ·
     rw [hset q (hC q hq).1,if_pos hq,want_bind h hB (hC q hq).1] at h3
     exact .inr ⟨q,hq,h3⟩
   ·
    rintro (h3|⟨q,hq,h3⟩)
    ·
     exact .inl h3
    ·
     refine .inr ⟨q,hq,?_⟩
     rw [hset q (hC q hq).1,if_pos hq,want_bind h hB (hC q hq).1];exact h3
  conv=>lhs;rw [show (ints C).length=C.length from ints_len C]
  exact Bool.eq_iff_iff.2 (by rw [ints_len] at this;exact this)
theorem leave_bind (h:Fine P ord) (hB:Bd P ord s t) (hR:T.RI (datG P ord) t):Bd P ord (leaveS s) ⟨T.leaveA (datG P ord) t.A,t.l⟩:=by
 have keep:∀ {p:Nat},t.A p≠none→T.leaveA (datG P ord) t.A p=t.A p:=fun hp=>by unfold T.leaveA;rw [if_neg (fun h=>hp h.2.1)]
 refine ⟨hB.hP,hB.ho,hB.ten,(goneL_len _ _).trans hB.gl,hB.tl,fun p hp=>?_,fun p hp=>?_,fun f h0=>?_,?_⟩
 ·
  show (goneL s s.gone.length).getD p false=_
  rw [goneL_get s s.gone.length p (by rw [hB.gl];exact hp),if_pos (by rw [hB.gl];exact hp),hB.gone p hp,want_bind h hB hp]
  show _=(T.leaveA (datG P ord) t.A p).isSome
  unfold T.leaveA
  cases ha:t.A p with
  | some v=>simp
  | none =>
   by_cases hw:T.want (datG P ord) t.A p=0
   ·
    rw [if_pos ⟨hp,rfl,hw⟩];simp [hw]
   ·
    rw [if_neg (fun h=>hw h.2.2)];simp [hw]
 ·
  show rd s.tos (p:Int)=(T.leaveA (datG P ord) t.A p).getD 0
  rw [hB.tos p hp]
  unfold T.leaveA
  split
  ·
   rename_i hc;rw [hc.2.1];rfl
  ·
   rfl
 ·
  show (s.tak f).getD false=_
  rw [hB.tak f h0]
  show _=T.takenB (datG P ord) (T.leaveA (datG P ord) t.A) f
  rw [T.leave_eq,T.taken_leave _ h0]
 ·
  show s.rg=t.l.map (ringOf P (T.leaveA (datG P ord) t.A))
  rw [hB.rg]
  exact (ring_same fun r hr p hp=>keep (hR.gone r hr p hp).2).symm
theorem start_bind (h:Fine P ord):Bd P ord (startG P ord P.length) ⟨fun _=>none,[]⟩:=by
 refine ⟨rfl,rfl,rfl,by simp [startG],by simp [startG],fun p hp=>?_,fun p hp=>?_,fun f h0=>?_,rfl⟩
 ·
  show (List.replicate P.length false).getD p false=false
  rw [List.getD_eq_getElem?_getD,List.getElem?_replicate]
  split <;> rfl
 ·
  show rd (List.replicate P.length 0) (p:Int)=0
  rw [rd_get (by simpa using hp)];simp
 ·
  show false=T.takenB (datG P ord) (fun _=>none) f
  unfold T.takenB;simp
theorem bd_ok (h:Fine P ord) (hB:Bd P ord s t):GOk s:=by
 refine ⟨by rw [hB.hP];exact h.n,by rw [hB.hP];exact h.ok,by rw [hB.hP,hB.ho];exact h.ob,by rw [hB.hP,hB.ho];exact h.ol,by rw [hB.hP];exact hB.gl,by rw [hB.hP];exact hB.tl,fun f x hx=>?_⟩
 rw [hB.hP]
 rw [hB.ten] at hx
 have:∀ k,k≤P.length→tenK P k f=some x→0≤x∧x < P.length:=by
  intro k
  induction k with
  | zero=>intro _ e;cases e
  | succ k ih =>
   intro hk e
   unfold tenK at e
   split at e
   ·
    dsimp only at e
    split at e
    ·
     cases e;omega
    ·
     exact ih (by omega) e
   ·
    exact ih (by omega) e
 exact this _ (Nat.le_refl _) hx
theorem len_flat {l:List T.Rg} (hne:∀ r ∈ l,r.2≠[]):l.length≤(l.flatMap fun r=>r.2).length∧∀ r ∈ l,r.2.length≤(l.flatMap fun r=>r.2).length:=by
 induction l with
 | nil=>exact ⟨Nat.le_refl _,fun r hr=>by cases hr⟩
 | cons a l ih =>
  obtain ⟨h1,h2⟩:=ih (fun r hr=>hne r (List.mem_cons_of_mem _ hr))
  have h3:=List.length_pos_iff.2 (hne a List.mem_cons_self)
  rw [List.flatMap_cons,List.length_append,List.length_cons]
  refine ⟨by omega,fun r hr=>?_⟩
  rcases List.mem_cons.1 hr with rfl|hr
  ·
   omega
  ·
   have:=h2 r hr;omega
theorem rings_ok (h:Fine P ord) (hB:Bd P ord s t) (hR:T.RI (datG P ord) t):RgOk 64 s.rg:=by
 have hl:=len_flat (fun r hr=>(hR.ne r hr).1)
 have hn:=T.nodup_bd P.length _ hR.nd (fun x hx=>by
  obtain ⟨r,hr,hx⟩:=List.mem_flatMap.1 hx
  exact (hR.gone r hr x hx).1)
 have:=h.n
 unfold RgOk
 rw [hB.rg,List.length_map]
 refine ⟨by omega,fun r hr=>?_⟩
 obtain ⟨r',hr',rfl⟩:=List.mem_map.1 hr
 refine ⟨?_,?_⟩
 ·
  show r'.2.map (mvOf P t.A)≠[]
  simpa using (hR.ne r' hr').1
 ·
  show (r'.2.map (mvOf P t.A)).length≤64 * 64
  rw [List.length_map]
  have:=hl.2 r' hr'
  omega
/-- The run. -/
theorem run_bind (h:Fine P ord):∀ (k:Nat) (s:GS) (t:T.St),T.left (datG P ord) t.A < k + 1→Bd P ord s t→T.Inv (datG P ord) t.A→T.Wants (datG P ord) t.A→T.RI (datG P ord) t →
  RunOk k s∧Bd P ord (runG k s) (T.runS (datG P ord) k t)
 | 0,s,t,hk,hB,hI,hW,hR=>by
  refine ⟨⟨bd_ok h hB,?_⟩,hB⟩
  have hf:=first_bind h hB
  cases hq:(datG P ord).order.find? fun p=>(t.A p).isNone with
  | none=>rw [hq] at hf;have hf:firstS s = -1:=hf;rw [hf];decide
  | some q =>
   exfalso
   have h1:=List.find?_some hq
   rw [hq] at hf
   have h2:0 < T.left (datG P ord) t.A:=by
    unfold T.left
    refine List.length_pos_iff.2 (fun e=>?_)
    rw [List.filter_eq_nil_iff] at e
    exact e q (List.mem_range.2 hf.2) h1
   omega
 | k + 1,s,t,hk,hB,hI,hW,hR=>by
  have hf:=first_bind h hB
  have hwf:=fine_wf h
  cases hq:(datG P ord).order.find? fun p=>(t.A p).isNone with
  | none =>
   rw [hq] at hf
   have hf:firstS s = -1:=hf
   refine ⟨⟨bd_ok h hB,fun hn=>absurd (by rw [hf];decide) hn⟩,?_⟩
   unfold runG T.runS
   rw [if_pos (by rw [hf];decide),if_pos (by rw [hq];rfl)];exact hB
  | some q =>
   rw [hq] at hf
   obtain ⟨hf1,hf2⟩:=hf
   have ha:t.A q=none:=by have:=List.find?_some hq;simpa using this
   obtain ⟨C,hC1,hC2,hC3,qq,j,hq1,hq2,hj1,hC4,hC5⟩:=T.findC_some hwf hf2 ha
   have hcy:=cycle_bind h hB hW
   rw [hC1] at hcy
   have hcy:cycleS s=ints C:=hcy
   have hBd:=done_bind h hB hW hR hC2.mem
   have hRx:=T.ri_exec hwf hI hW hR hC2 hC3 hC5 hC4
   have hIx:=T.inv_exec hwf hI hC2
   have hBl:=leave_bind h hBd hRx
   have hst:T.stepS (datG P ord) t=⟨T.leaveA (datG P ord) (T.exec (datG P ord) t.A C),T.note (datG P ord) t.A C t.l⟩:=by unfold T.stepS;rw [hC1];rfl
   have hsg:stepG s=leaveS (doneS s (ints C)):=by unfold stepG;rw [hcy]
   have hlf:T.left (datG P ord) (T.stepS (datG P ord) t).A < k + 1:=by
    rw [hst]
    have h1:=T.left_exec (D:=datG P ord) (A:=t.A) hC2
    have h2:=T.left_leave (D:=datG P ord) (A:=T.exec (datG P ord) t.A C) hwf
    show T.left (datG P ord) (T.leaveA (datG P ord) (T.exec (datG P ord) t.A C)) < k + 1
    omega
   have hrec:=run_bind h k (stepG s) (T.stepS (datG P ord) t) hlf (by rw [hsg,hst];exact hBl) (by rw [hst];exact T.inv_leave hwf hIx) (by rw [hst];exact T.wants_leave hwf) (by rw [hst];exact T.ri_leave hwf hRx)
   have hn64:=T.nodup_bd P.length C hC3 (fun x hx=>(hC2.mem x hx).1)
   have:=h.n
   refine ⟨⟨bd_ok h hB,fun _=>⟨⟨64,by decide,rings_ok h hB hR⟩,?_,?_,hrec.1⟩⟩,?_⟩
   ·
    rw [hcy,ints_len]
    exact ⟨List.length_pos_iff.2 hC2.ne,by omega⟩
   ·
    rw [hcy,hB.hP]
    intro x hx
    unfold ints at hx
    obtain ⟨y,hy,rfl⟩:=List.mem_map.1 hx
    have:=(hC2.mem y hy).1
    have:y < P.length:=this
    omega
   ·
    unfold runG T.runS
    rw [if_neg (by rw [hf1];omega),if_neg (by rw [hq];simp)]
    exact hrec.2
theorem final_bind (h:Fine P ord):RunOk (P.length + 1) (leaveS (startG P ord P.length))∧Bd P ord (finalG P ord) (T.final (datG P ord)):=by
 have hwf:=fine_wf h
 have hl:=T.left_le (D:=datG P ord) (T.leaveA (datG P ord) fun _=>none)
 have hl:T.left (datG P ord) (T.leaveA (datG P ord) fun _=>none)≤P.length:=hl
 exact run_bind h (P.length + 1) _ (T.start (datG P ord)) (by show T.left (datG P ord) (T.leaveA (datG P ord) fun _=>none) < _;omega) (leave_bind h (start_bind h) T.ri0) (T.inv_leave hwf (T.inv0 hwf)) (T.wants_leave hwf) (T.ri_leave hwf T.ri0)
end
end Go.Proofs.Ytjgnkhfgmpaljaa.P
