/- Lemmas, readings of functions as plain Lean functions and contracts of functions of the program, for the claimed theorem; each one's conditions stand in its statement. -/
import Init
namespace Go.Proofs.Ytjgnkhfgmpaljaa.T
set_option linter.unusedSimpArgs false
set_option linter.unusedVariables false
/-- What is given: the parties 0 .. n - 1, the flat of each (0: none), its ranking, and an order. -/
structure Dat where
  n:Nat
  own:Nat→Int
  rank:Nat→List Int
  order:List Nat
/-- Who has gone, and with what. -/
abbrev Asg:=Nat→Option Int
def takenB (D:Dat) (A:Asg) (f:Int):Bool:=(List.range D.n).any fun q=>A q == some f
theorem taken_iff {D:Dat} {A:Asg} {f:Int}:takenB D A f=true ↔ ∃ q,q < D.n∧A q=some f:=by
  unfold takenB;simp [List.any_eq_true]
def goodB (D:Dat) (A:Asg) (p:Nat) (f:Int):Bool:=decide (f=D.own p) || !takenB D A f
def want (D:Dat) (A:Asg) (p:Nat):Int:=((D.rank p).find? (goodB D A p)).getD 0
def first (D:Dat) (A:Asg):Nat:=(D.order.find? fun p=>(A p).isNone).getD 0
def tenant (D:Dat) (A:Asg) (f:Int):Option Nat:=(List.range D.n).find? fun t=>decide (D.own t=f) && (A t).isNone
def owner (D:Dat) (A:Asg) (f:Int):Nat:=(tenant D A f).getD (first D A)
def next (D:Dat) (A:Asg) (p:Nat):Nat:=if want D A p=0 then p else owner D A (want D A p)
structure WF (D:Dat):Prop where
  inj:∀ p q,p < D.n→q < D.n→D.own p=D.own q→D.own p≠0→p=q
  rk:∀ p,p < D.n→∃ l,D.rank p=l ++ [D.own p]∧D.own p ∉ l∧(0:Int) ∉ l∧l.Nodup
  all:∀ p,p < D.n→p ∈ D.order
  bd:∀ p,p ∈ D.order→p < D.n
structure Inv (D:Dat) (A:Asg):Prop where
  free:∀ p,p < D.n→A p=none→D.own p≠0→takenB D A (D.own p)=false
  inj:∀ p q f,p < D.n→q < D.n→A p=some f→A q=some f→f≠0→p=q
  rk:∀ p f,p < D.n→A p=some f→f ∈ D.rank p
  ownd:∀ p,p < D.n→A p=none→D.own p≠0→D.own p ∈ D.rank p
theorem inv0 {D:Dat} (h:WF D):Inv D (fun _=>none):=by
  refine ⟨fun p _ _ _=>?_,(fun p q f _ _ (h:(none:Option Int)=some f)=>by cases h),(fun p f _ (h:(none:Option Int)=some f)=>by cases h),fun p hp _ _=>?_⟩
  · unfold takenB;simp
  · obtain ⟨l,e,_⟩:=h.rk p hp;rw [e];simp
section
variable {D:Dat} {A:Asg}
theorem own_mem (h:WF D) {p:Nat} (hp:p < D.n):D.own p ∈ D.rank p:=by obtain ⟨l,e,_⟩:=h.rk p hp;rw [e];simp
theorem want_find (h:WF D) {p:Nat} (hp:p < D.n):(D.rank p).find? (goodB D A p)=some (want D A p):=by
  unfold want
  cases hf:(D.rank p).find? (goodB D A p) with
  | some x=>rfl
  | none =>
    exfalso
    rw [List.find?_eq_none] at hf
    exact hf _ (own_mem h hp) (by simp [goodB])
theorem want_mem (h:WF D) {p:Nat} (hp:p < D.n):want D A p ∈ D.rank p:=List.mem_of_find?_eq_some (want_find h hp)
theorem want_good (h:WF D) {p:Nat} (hp:p < D.n):goodB D A p (want D A p)=true:=List.find?_some (p:=goodB D A p) (want_find h hp)
/-- What is wanted is not taken. -/
theorem want_free (h:WF D) (hI:Inv D A) {p:Nat} (hp:p < D.n) (ha:A p=none) (h0:want D A p≠0):takenB D A (want D A p)=false:=by
  have hg:=want_good (A:=A) h hp
  unfold goodB at hg
  rw [Bool.or_eq_true,decide_eq_true_eq] at hg
  rcases hg with e|e
  · rw [e] at h0 ⊢
    exact hI.free p hp ha h0
  · simpa using e
theorem zero_own (h:WF D) {p:Nat} (hp:p < D.n) (h0:(0:Int) ∈ D.rank p):D.own p=0:=by
  obtain ⟨l,e,h1,h2,h3⟩:=h.rk p hp
  rw [e,List.mem_append,List.mem_singleton] at h0
  rcases h0 with h0|h0
  · exact absurd h0 h2
  · exact h0.symm
/-! the flats' owners -/
theorem find_uniq {α:Type} {p:α→Bool} {l:List α} {x:α} (hx:x ∈ l) (hp:p x=true) (hu:∀ y ∈ l,p y=true→y=x):l.find? p=some x:=by
  cases hf:l.find? p with
  | none=>rw [List.find?_eq_none] at hf;exact absurd hp (by simpa using hf x hx)
  | some y=>rw [hu y (List.mem_of_find?_eq_some hf) (List.find?_some hf)]
theorem tenant_some (h:WF D) {f:Int} {t:Nat} (ht:t < D.n) (ho:D.own t=f) (h0:f≠0) (ha:A t=none):tenant D A f=some t:=by
  unfold tenant
  refine find_uniq (by simpa using ht) (by simp [ho,ha]) (fun y hy hp=>?_)
  simp only [Bool.and_eq_true,decide_eq_true_eq] at hp
  exact h.inj y t (by simpa using hy) ht (by rw [hp.1,ho]) (by rw [hp.1];exact h0)
theorem tenant_inv {f:Int} {t:Nat} (ht:tenant D A f=some t):t < D.n∧D.own t=f∧A t=none:=by
  unfold tenant at ht
  have h1:=List.mem_of_find?_eq_some ht
  have h2:=List.find?_some ht
  simp only [Bool.and_eq_true,decide_eq_true_eq] at h2
  exact ⟨by simpa using h1,h2.1,by simpa using h2.2⟩
theorem tenant_none {f:Int}:tenant D A f=none ↔ ∀ t,t < D.n→D.own t=f→A t≠none:=by
  unfold tenant
  rw [List.find?_eq_none]
  constructor
  · intro h t ht ho ha
    exact h t (by simpa using ht) (by simp [ho,ha])
  · intro h t ht hp
    simp only [Bool.and_eq_true,decide_eq_true_eq] at hp
    exact h t (by simpa using ht) hp.1 (by simpa using hp.2)
theorem first_of (h:WF D) {p:Nat} (hp:p < D.n) (ha:A p=none):first D A < D.n∧A (first D A)=none:=by
  unfold first
  cases hf:D.order.find? (fun p=>(A p).isNone) with
  | none=>rw [List.find?_eq_none] at hf;exact absurd (hf p (h.all p hp)) (by simp [ha])
  | some x =>
    have h1:=List.mem_of_find?_eq_some hf
    have h2:=List.find?_some hf
    exact ⟨h.bd _ h1,by simpa using h2⟩
theorem owner_of (h:WF D) {p:Nat} (hp:p < D.n) (ha:A p=none) (f:Int):owner D A f < D.n∧A (owner D A f)=none:=by
  unfold owner
  cases ht:tenant D A f with
  | none=>exact first_of h hp ha
  | some t=>exact ⟨(tenant_inv ht).1,(tenant_inv ht).2.2⟩
theorem next_of (h:WF D) {p:Nat} (hp:p < D.n) (ha:A p=none):next D A p < D.n∧A (next D A p)=none:=by
  unfold next
  split
  · exact ⟨hp,ha⟩
  · exact owner_of h hp ha _
end
/-! cycles -/
def it (g:Nat→Nat):Nat→Nat→Nat
  | 0,p=>p
  | k + 1,p=>it g k (g p)
theorem it_mem {g:Nat→Nat} {C:List Nat} (h:∀ p ∈ C,g p ∈ C):∀ k p,p ∈ C→it g k p ∈ C
  | 0,p,hp=>hp
  | k + 1,p,hp=>it_mem h k _ (h p hp)
structure Cyc (D:Dat) (A:Asg) (C:List Nat):Prop where
  ne:C≠[]
  mem:∀ p ∈ C,p < D.n∧A p=none
  cl:∀ p ∈ C,next D A p ∈ C
  con:∀ p ∈ C,∀ q ∈ C,∃ k,it (next D A) k p=q
  inj:∀ p ∈ C,∀ q ∈ C,next D A p=next D A q→p=q
def exec (D:Dat) (A:Asg) (C:List Nat):Asg:=fun q=>if q ∈ C then some (want D A q) else A q
section
variable {D:Dat} {A:Asg} {C C':List Nat}
theorem exec_in {q:Nat} (h:q ∈ C):exec D A C q=some (want D A q):=if_pos h
theorem exec_out {q:Nat} (h:q ∉ C):exec D A C q=A q:=if_neg h
theorem exec_none {q:Nat}:exec D A C q=none ↔ q ∉ C∧A q=none:=by
  unfold exec
  by_cases h:q ∈ C <;> simp [h]
theorem same_mem (h:Cyc D A C) (h':Cyc D A C') {x:Nat} (hx:x ∈ C) (hx':x ∈ C') (q:Nat):q ∈ C ↔ q ∈ C':=by
  constructor
  · intro hq;obtain ⟨k,rfl⟩:=h.con x hx q hq;exact it_mem h'.cl k x hx'
  · intro hq;obtain ⟨k,rfl⟩:=h'.con x hx' q hq;exact it_mem h.cl k x hx
theorem exec_same (h:∀ q,q ∈ C ↔ q ∈ C'):exec D A C=exec D A C':=by
  funext q;unfold exec
  by_cases hq:q ∈ C
  · rw [if_pos hq,if_pos ((h q).1 hq)]
  · rw [if_neg hq,if_neg (fun e=>hq ((h q).2 e))]
theorem next_want {p:Nat} (h0:want D A p≠0):next D A p=owner D A (want D A p):=if_neg h0
theorem taken_exec {f:Int} (hC:∀ p ∈ C,p < D.n∧A p=none):takenB D (exec D A C) f=true ↔ takenB D A f=true ∨ ∃ q ∈ C,want D A q=f:=by
  rw [taken_iff,taken_iff]
  constructor
  · rintro ⟨q,hq,he⟩
    by_cases hm:q ∈ C
    · rw [exec_in hm] at he;exact .inr ⟨q,hm,Option.some.inj he⟩
    · rw [exec_out hm] at he;exact .inl ⟨q,hq,he⟩
  · rintro (⟨q,hq,he⟩|⟨q,hq,he⟩)
    · refine ⟨q,hq,?_⟩
      rw [exec_out (fun hm=>by rw [(hC q hm).2] at he;cases he)];exact he
    · exact ⟨q,(hC q hq).1,by rw [exec_in hq,he]⟩
theorem inv_exec (h:WF D) (hI:Inv D A) (hC:Cyc D A C):Inv D (exec D A C):=by
  refine ⟨fun p hp ha h0=>?_,fun p q f hp hq h1 h2 h0=>?_,fun p f hp h1=>?_,fun p hp ha h0=>own_mem h hp⟩
  · obtain ⟨h1,h2⟩:=exec_none.1 ha
    cases ht:takenB D (exec D A C) (D.own p) with
    | false=>rfl
    | true =>
      exfalso
      rcases (taken_exec hC.mem).1 ht with h3|⟨q,hq,h3⟩
      · rw [hI.free p hp h2 h0] at h3;cases h3
      · apply h1
        have h4:=hC.cl q hq
        rw [next_want (by rw [h3];exact h0),h3] at h4
        unfold owner at h4
        rw [tenant_some h hp rfl h0 h2] at h4
        exact h4
  · have key:∀ p q:Nat,p ∈ C→q ∉ C→q < D.n→want D A p=f→A q=some f→False:=by
      intro p q hpc hqc hq e1 e2
      have:=want_free h hI (hC.mem p hpc).1 (hC.mem p hpc).2 (by rw [e1];exact h0)
      rw [e1] at this
      have h3:takenB D A f=true:=taken_iff.2 ⟨q,hq,e2⟩
      rw [h3] at this;cases this
    by_cases hpc:p ∈ C <;> by_cases hqc:q ∈ C
    · rw [exec_in hpc] at h1;rw [exec_in hqc] at h2
      have e1:=Option.some.inj h1;have e2:=Option.some.inj h2
      refine hC.inj p hpc q hqc ?_
      rw [next_want (by rw [e1];exact h0),next_want (by rw [e2];exact h0),e1,e2]
    · rw [exec_in hpc] at h1;rw [exec_out hqc] at h2
      exact (key p q hpc hqc hq (Option.some.inj h1) h2).elim
    · rw [exec_out hpc] at h1;rw [exec_in hqc] at h2
      exact (key q p hqc hpc hp (Option.some.inj h2) h1).elim
    · rw [exec_out hpc] at h1;rw [exec_out hqc] at h2
      exact hI.inj p q f hp hq h1 h2 h0
  · by_cases hpc:p ∈ C
    · rw [exec_in hpc] at h1;cases h1;exact want_mem h hp
    · rw [exec_out hpc] at h1;exact hI.rk p f hp h1
theorem find_congr' {α:Type} {p q:α→Bool} {l:List α} {x:α} (hx:l.find? p=some x) (h1:q x=true) (h2:∀ y ∈ l,p y=false→q y=false):l.find? q=some x:=by
  rw [List.find?_eq_some_iff_append] at hx ⊢
  obtain ⟨_,as,bs,e,h3⟩:=hx
  refine ⟨h1,as,bs,e,fun a ha=>?_⟩
  rw [h2 a (by rw [e];simp [ha]) (by simpa using h3 a ha)];rfl
/-- What another cycle does not touch. -/
theorem want_apart (h:WF D) (hI:Inv D A) (hC:Cyc D A C) (hC':Cyc D A C') (hd:∀ x ∈ C,x ∉ C') {p:Nat} (hp:p ∈ C'):want D (exec D A C) p=want D A p:=by
  obtain ⟨hpn,hpa⟩:=hC'.mem p hp
  have hw:=want_find (A:=A) h hpn
  have hnt:want D A p≠D.own p→takenB D (exec D A C) (want D A p)=false:=by
    intro hne
    cases ht:takenB D (exec D A C) (want D A p) with
    | false=>rfl
    | true =>
      exfalso
      have h0:want D A p≠0:=fun e=>hne (by
        have:=zero_own h hpn (by rw [← e];exact want_mem h hpn)
        rw [e,this])
      rcases (taken_exec hC.mem).1 ht with h3|⟨q,hq,h3⟩
      · rw [want_free h hI hpn hpa h0] at h3;cases h3
      · have h4:=hC.cl q hq
        have h5:=hC'.cl p hp
        rw [next_want (by rw [h3];exact h0),h3] at h4
        rw [next_want h0] at h5
        exact hd _ h4 h5
  have:(D.rank p).find? (goodB D (exec D A C) p)=some (want D A p):=by
    refine find_congr' hw ?_ ?_
    · unfold goodB
      by_cases e:want D A p=D.own p
      · simp [e]
      · rw [hnt e];simp
    · intro y hy hg
      unfold goodB at hg ⊢
      simp only [Bool.or_eq_false_iff,decide_eq_false_iff_not,Bool.not_eq_false'] at hg ⊢
      exact ⟨hg.1,(taken_exec hC.mem).2 (.inl hg.2)⟩
  conv=>lhs;unfold want
  rw [this];rfl
theorem next_apart (h:WF D) (hI:Inv D A) (hC:Cyc D A C) (hC':Cyc D A C') (hd:∀ x ∈ C,x ∉ C') {p:Nat} (hp:p ∈ C'):next D (exec D A C) p=next D A p:=by
  have hw:=want_apart h hI hC hC' hd hp
  unfold next
  rw [hw]
  by_cases h0:want D A p=0
  · rw [if_pos h0,if_pos h0]
  · rw [if_neg h0,if_neg h0]
    have h5:=hC'.cl p hp
    rw [next_want h0] at h5
    unfold owner at h5 ⊢
    cases ht:tenant D A (want D A p) with
    | some t =>
      rw [ht] at h5
      obtain ⟨h1,h2,h3⟩:=tenant_inv ht
      rw [tenant_some h h1 h2 h0 (exec_none.2 ⟨fun hm=>hd _ hm h5,h3⟩)];rfl
    | none =>
      rw [ht] at h5
      have h1:tenant D (exec D A C) (want D A p)=none:=by
        rw [tenant_none] at ht ⊢
        intro t a b c
        exact ht t a b (exec_none.1 c).2
      rw [h1]
      show first D (exec D A C)=first D A
      have h5':first D A ∈ C':=h5
      obtain ⟨h6,h7⟩:=hC'.mem _ h5'
      have hf:D.order.find? (fun p=>(A p).isNone)=some (first D A):=by
        unfold first
        cases hf:D.order.find? (fun p=>(A p).isNone) with
        | none=>rw [List.find?_eq_none] at hf;exact absurd (hf _ (h.all _ h6)) (by rw [h7];simp)
        | some x=>rfl
      have:=find_congr' (q:=fun p=>(exec D A C p).isNone) hf (by
        have:exec D A C (first D A)=none:=exec_none.2 ⟨fun hm=>hd _ hm h5',h7⟩
        rw [this];rfl) (fun y _ hy=>by
          cases he:exec D A C y with
          | some v=>rfl
          | none=>rw [(exec_none.1 he).2] at hy;cases hy)
      conv=>lhs;unfold first
      rw [this];rfl
theorem it_congr {g g':Nat→Nat} {C:List Nat} (hg:∀ p ∈ C,g' p=g p) (hc:∀ p ∈ C,g p ∈ C):∀ k p,p ∈ C→it g' k p=it g k p
  | 0,p,_=>rfl
  | k + 1,p,hp=>by show it g' k (g' p)=it g k (g p);rw [hg p hp];exact it_congr hg hc k _ (hc p hp)
theorem cyc_of_next {D':Dat} {A':Asg} (hC:Cyc D A C) (hm:∀ p ∈ C,p < D'.n∧A' p=none) (hn:∀ p ∈ C,next D' A' p=next D A p):Cyc D' A' C:=by
  refine ⟨hC.ne,hm,fun p hp=>by rw [hn p hp];exact hC.cl p hp,fun p hp q hq=>?_,fun p hp q hq e=>?_⟩
  · obtain ⟨k,hk⟩:=hC.con p hp q hq
    exact ⟨k,by rw [it_congr hn hC.cl k p hp,hk]⟩
  · rw [hn p hp,hn q hq] at e;exact hC.inj p hp q hq e
theorem cyc_apart (h:WF D) (hI:Inv D A) (hC:Cyc D A C) (hC':Cyc D A C') (hd:∀ x ∈ C,x ∉ C'):Cyc D (exec D A C) C' :=
  cyc_of_next hC' (fun p hp=>⟨(hC'.mem p hp).1,exec_none.2 ⟨fun hm=>hd _ hm hp,(hC'.mem p hp).2⟩⟩) (fun p hp=>next_apart h hI hC hC' hd hp)
theorem exec_comm (h:WF D) (hI:Inv D A) (hC:Cyc D A C) (hC':Cyc D A C') (hd:∀ x ∈ C,x ∉ C'):exec D (exec D A C) C'=exec D (exec D A C') C:=by
  funext q
  have hd':∀ x ∈ C',x ∉ C:=fun x h1 h2=>hd x h2 h1
  by_cases h1:q ∈ C
  · rw [exec_in h1,exec_out (hd q h1),exec_in h1,want_apart h hI hC' hC hd' h1]
  · by_cases h2:q ∈ C'
    · rw [exec_in h2,exec_out h1,exec_in h2,want_apart h hI hC hC' hd h2]
    · rw [exec_out h2,exec_out h1,exec_out h1,exec_out h2]
end
/-! how many are left -/
def left (D:Dat) (A:Asg):Nat:=((List.range D.n).filter fun p=>(A p).isNone).length
theorem left_exec {D:Dat} {A:Asg} {C:List Nat} (hC:Cyc D A C):left D (exec D A C) < left D A:=by
  unfold left
  obtain ⟨p,hp⟩:=List.exists_mem_of_ne_nil C hC.ne
  obtain ⟨h1,h2⟩:=hC.mem p hp
  have himp:∀ a,(exec D A C a).isNone=true→(A a).isNone=true:=by
    intro a h;have:exec D A C a=none:=by simpa using h
    rw [(exec_none.1 this).2];rfl
  have hpf:(exec D A C p).isNone=false:=by rw [exec_in hp];rfl
  have hpt:(A p).isNone=true:=by rw [h2];rfl
  have:∀ l:List Nat,((l.filter fun p=>(exec D A C p).isNone).length≤(l.filter fun p=>(A p).isNone).length)∧(p ∈ l→(l.filter fun p=>(exec D A C p).isNone).length < (l.filter fun p=>(A p).isNone).length):=by
    intro l
    induction l with
    | nil=>exact ⟨Nat.le_refl _,fun h=>by cases h⟩
    | cons a l ih =>
      have hm:=himp a
      simp only [List.filter_cons]
      by_cases e:p=a
      · subst e
        rw [hpf,hpt]
        have:=ih.1
        exact ⟨by simp;omega,fun _=>by simp;omega⟩
      · have i1:=ih.1;have i2:=ih.2
        have e2:p ∈ a :: l ↔ p ∈ l:=by rw [List.mem_cons];exact ⟨fun h=>h.resolve_left e,.inr⟩
        rw [e2]
        cases ha:(exec D A C a).isNone with
        | true=>rw [hm ha];simpa using ih
        | false =>
          cases hb:(A a).isNone with
          | true=>exact ⟨by simp;omega,fun h=>by have:=i2 h;simp;omega⟩
          | false=>simpa using ih
  exact (this _).2 (by simpa using h1)
/-! the outcome -/
inductive Out (D:Dat):Asg→Asg→Prop
  | done {A:Asg}:(∀ p,p < D.n→A p≠none)→Out D A A
  | step {A F:Asg} {C:List Nat}:Cyc D A C→Out D (exec D A C) F→Out D A F
/-! walking along -/
/-- The parties on the way from 'p' on, back to it; nothing if the way does not come back. -/
def walk (D:Dat) (A:Asg) (p:Nat):Nat→List Nat→Nat→Option (List Nat)
  | 0,_,_=>none
  | k + 1,path,at_=>if at_=p then some path else if at_ ∈ path then none else walk D A p k (path ++ [at_]) (next D A at_)
def cycleAt (D:Dat) (A:Asg) (p:Nat):Option (List Nat):=walk D A p (D.n + 1) [p] (next D A p)
theorem nodup_bd:∀ (n:Nat) (l:List Nat),l.Nodup→(∀ x ∈ l,x < n)→l.length≤n:=by
  intro n l h1 h2
  have:∀ (l m:List Nat),l.Nodup→(∀ x ∈ l,x ∈ m)→l.length≤m.length:=by
    intro l
    induction l with
    | nil=>intros;exact Nat.zero_le _
    | cons a l ih =>
      intro m hn hs
      rw [List.nodup_cons] at hn
      have ha:=hs a List.mem_cons_self
      have h1:=ih (m.erase a) hn.2 (fun x hx=>(List.mem_erase_of_ne (fun e=>hn.1 (by rw [← e];exact hx))).2 (hs x (List.mem_cons_of_mem _ hx)))
      rw [List.length_erase_of_mem ha] at h1
      have:=List.length_pos_of_mem ha
      rw [List.length_cons];omega
  simpa using this l (List.range n) h1 (fun x hx=>by simpa using h2 x hx)
theorem it_succ (g:Nat→Nat):∀ k p,it g (k + 1) p=g (it g k p)
  | 0,p=>rfl
  | k + 1,p=>it_succ g k (g p)
theorem it_add (g:Nat→Nat):∀ a b p,it g (a + b) p=it g a (it g b p)
  | a,0,p=>rfl
  | a,b + 1,p=>it_add g a b (g p)
/-- The orbit, as a list. -/
def orb (g:Nat→Nat) (p k:Nat):List Nat:=(List.range k).map fun i=>it g i p
theorem orb_succ (g:Nat→Nat) (p k:Nat):orb g p (k + 1)=orb g p k ++ [it g k p]:=by unfold orb;rw [List.range_succ,List.map_append];rfl
theorem mem_orb {g:Nat→Nat} {p k q:Nat}:q ∈ orb g p k ↔ ∃ i,i < k∧it g i p=q:=by unfold orb;simp
theorem walk_orb {D:Dat} {A:Asg} {p:Nat}:∀ (k m:Nat),0 < m→m + k=D.n + 2→∀ C,walk D A p k (orb (next D A) p m) (it (next D A) m p)=some C→∃ j,m≤j∧C=orb (next D A) p j∧it (next D A) j p=p∧(∀ i,m≤i→i < j→it (next D A) i p ∉ orb (next D A) p i)
  | 0,m,_,_,C,h=>by simp [walk] at h
  | k + 1,m,hm,hk,C,h=>by
    unfold walk at h
    by_cases h1:it (next D A) m p=p
    · rw [if_pos h1] at h;cases h
      exact ⟨m,Nat.le_refl _,rfl,h1,fun i h2 h3=>by omega⟩
    · rw [if_neg h1] at h
      by_cases h2:it (next D A) m p ∈ orb (next D A) p m
      · rw [if_pos h2] at h;cases h
      · rw [if_neg h2,← orb_succ,← it_succ (next D A)] at h
        obtain ⟨j,h3,h4,h5,h6⟩:=walk_orb k (m + 1) (by omega) (by omega) C h
        refine ⟨j,by omega,h4,h5,fun i h7 h8=>?_⟩
        by_cases e:i=m
        · subst e;exact h2
        · exact h6 i (by omega) h8
theorem nodup_orb {g:Nat→Nat} {p j:Nat} (h:∀ i,1≤i→i < j→it g i p ∉ orb g p i):(orb g p j).Nodup:=by
  induction j with
  | zero=>unfold orb;simp
  | succ j ih =>
    rw [orb_succ,List.nodup_append]
    refine ⟨ih (fun i h1 h2=>h i h1 (by omega)),by simp,fun a ha b hb e=>?_⟩
    rw [List.mem_singleton] at hb;subst hb;subst e
    by_cases hj:j=0
    · subst hj;unfold orb at ha;simp at ha
    · exact h j (by omega) (by omega) ha
theorem it_ne {g:Nat→Nat} {p j:Nat} (h:∀ i,1≤i→i < j→it g i p ∉ orb g p i) {a b:Nat} (hab:a < b) (hb:b < j):it g a p≠it g b p:=by
  intro e
  exact h b (by omega) hb (mem_orb.2 ⟨a,hab,e⟩)
theorem cyc_orb {D:Dat} {A:Asg} {p j:Nat} (h:WF D) (hp:p < D.n) (ha:A p=none) (hj:1≤j) (hb:it (next D A) j p=p) (hn:∀ i,1≤i→i < j→it (next D A) i p ∉ orb (next D A) p i):Cyc D A (orb (next D A) p j):=by
  have hmem:∀ k,it (next D A) k p < D.n∧A (it (next D A) k p)=none:=by
    intro k
    induction k with
    | zero=>exact ⟨hp,ha⟩
    | succ k ih=>rw [it_succ];exact next_of h ih.1 ih.2
  have hper:∀ m k,it (next D A) (m * j + k) p=it (next D A) k p:=by
    intro m k
    induction m with
    | zero=>rw [Nat.zero_mul,Nat.zero_add]
    | succ m ih=>rw [show (m + 1) * j + k=(m * j + k) + j by rw [Nat.succ_mul];omega,it_add,hb,ih]
  refine ⟨?_,?_,?_,?_,?_⟩
  · intro e
    have:p ∈ orb (next D A) p j:=mem_orb.2 ⟨0,by omega,rfl⟩
    rw [e] at this;cases this
  · intro q hq
    obtain ⟨i,_,rfl⟩:=mem_orb.1 hq
    exact hmem i
  · intro q hq
    obtain ⟨i,hi,rfl⟩:=mem_orb.1 hq
    rw [← it_succ (next D A)]
    by_cases e:i + 1=j
    · rw [e,hb];exact mem_orb.2 ⟨0,by omega,rfl⟩
    · exact mem_orb.2 ⟨i + 1,by omega,rfl⟩
  · intro q hq r hr
    obtain ⟨i,hi,rfl⟩:=mem_orb.1 hq
    obtain ⟨l,hl,rfl⟩:=mem_orb.1 hr
    refine ⟨j - i + l,?_⟩
    rw [← it_add,show j - i + l + i=1 * j + l by omega,hper]
  · intro q hq r hr e
    obtain ⟨i,hi,rfl⟩:=mem_orb.1 hq
    obtain ⟨l,hl,rfl⟩:=mem_orb.1 hr
    rw [← it_succ (next D A),← it_succ (next D A)] at e
    by_cases hil:i=l
    · rw [hil]
    · exfalso
      rcases Nat.lt_or_gt_of_ne hil with hlt|hlt
      · by_cases e1:l + 1=j
        · rw [e1,hb] at e
          exact it_ne hn (show 0 < i + 1 by omega) (by omega) e.symm
        · exact it_ne hn (show i + 1 < l + 1 by omega) (by omega) e
      · by_cases e1:i + 1=j
        · rw [e1,hb] at e
          exact it_ne hn (show 0 < l + 1 by omega) (by omega) e
        · exact it_ne hn (show l + 1 < i + 1 by omega) (by omega) e.symm
theorem orb_one (g:Nat→Nat) (p:Nat):orb g p 1=[p]:=rfl
/-- What a walk finds is a cycle. -/
theorem cyc_of_walk {D:Dat} {A:Asg} {p:Nat} {C:List Nat} (h:WF D) (hp:p < D.n) (ha:A p=none) (hw:cycleAt D A p=some C):Cyc D A C∧C.Nodup∧∃ j,1≤j∧C=orb (next D A) p j∧it (next D A) j p=p:=by
  unfold cycleAt at hw
  obtain ⟨j,h1,rfl,h3,h4⟩:=walk_orb (D:=D) (A:=A) (p:=p) (D.n + 1) 1 (by omega) (by omega) C (by rw [orb_one];exact hw)
  exact ⟨cyc_orb h hp ha h1 h3 h4,nodup_orb h4,j,h1,rfl,h3⟩
/-- The walk comes back where the way does. -/
theorem walk_back {D:Dat} {A:Asg} {p j:Nat} (h:WF D) (hp:p < D.n) (ha:A p=none) (hb:it (next D A) j p=p) (hn:∀ i,1≤i→i < j→it (next D A) i p ∉ orb (next D A) p i) (hj:1≤j):∃ C,cycleAt D A p=some C:=by
  have hle:j≤D.n:=by
    have h1:=nodup_bd D.n _ (nodup_orb hn) (fun x hx=>((cyc_orb h hp ha hj hb hn).mem x hx).1)
    unfold orb at h1;simpa using h1
  have:∀ k m,m + k=D.n + 2→1≤m→m≤j→∃ C,walk D A p k (orb (next D A) p m) (it (next D A) m p)=some C:=by
    intro k
    induction k with
    | zero=>intro m h1 h2 h3;omega
    | succ k ih =>
      intro m h1 h2 h3
      unfold walk
      by_cases e:it (next D A) m p=p
      · exact ⟨_,if_pos e⟩
      · have hmj:m < j:=by
          rcases Nat.lt_or_ge m j with h|h
          · exact h
          · have:m=j:=by omega
            rw [this] at e;exact absurd hb e
        rw [if_neg e,if_neg (hn m h2 hmj),← orb_succ,← it_succ (next D A)]
        exact ih (m + 1) (by omega) (by omega) (by omega)
  obtain ⟨C,hC⟩:=this (D.n + 1) 1 (by omega) (by omega) hj
  exact ⟨C,hC⟩
/-- From wherever one begins, one comes onto a cycle. -/
theorem exists_back {D:Dat} {A:Asg} (h:WF D) {p:Nat} (hp:p < D.n) (ha:A p=none):∃ q j,q < D.n∧A q=none∧1≤j∧it (next D A) j q=q∧∀ i,1≤i→i < j→it (next D A) i q ∉ orb (next D A) q i:=by
  have hmem:∀ k,it (next D A) k p < D.n∧A (it (next D A) k p)=none:=by
    intro k
    induction k with
    | zero=>exact ⟨hp,ha⟩
    | succ k ih=>rw [it_succ];exact next_of h ih.1 ih.2
  -- a repeat
  have hrep:∃ b,it (next D A) b p ∈ orb (next D A) p b:=by
    refine Classical.byContradiction fun hno=>?_
    have hnd:(orb (next D A) p (D.n + 1)).Nodup:=nodup_orb (fun i _ _ hm=>hno ⟨i,hm⟩)
    have h1:=nodup_bd D.n _ hnd (fun x hx=>by obtain ⟨i,_,rfl⟩:=mem_orb.1 hx;exact (hmem i).1)
    unfold orb at h1
    simp only [List.length_map,List.length_range] at h1
    omega
  obtain ⟨b,hb⟩:=hrep
  obtain ⟨a,hab,he⟩:=mem_orb.1 hb
  -- q = it a p has a return time
  have hex:∃ j,1≤j∧it (next D A) j (it (next D A) a p)=it (next D A) a p:=⟨b - a,by omega,by rw [← it_add,show b - a + a=b by omega,he]⟩
  -- the least one
  have least:∀ (P:Nat→Prop),(∃ j,P j)→∃ j,P j∧∀ i,i < j→¬ P i:=by
    intro P ⟨j,hj⟩
    induction j using Nat.strongRecOn with
    | ind j ih =>
      by_cases hm:∃ m,m < j∧P m
      · obtain ⟨m,h1,h2⟩:=hm;exact ih m h1 h2
      · exact ⟨j,hj,fun i hi hp=>hm ⟨i,hi,hp⟩⟩
  obtain ⟨j,⟨h1,h2⟩,h3⟩:=least _ hex
  refine ⟨it (next D A) a p,j,(hmem a).1,(hmem a).2,h1,h2,fun i hi1 hi2 hm=>?_⟩
  obtain ⟨l,hl,e⟩:=mem_orb.1 hm
  -- it l q = it i q, l < i < j: then j - i + l is a lesser return
  refine h3 (j - i + l) (by omega) ⟨by omega,?_⟩
  rw [it_add,e,← it_add,show j - i + i=j by omega,h2]
theorem progress {D:Dat} {A:Asg} (h:WF D) {p:Nat} (hp:p < D.n) (ha:A p=none):∃ q,q < D.n∧A q=none∧∃ C,cycleAt D A q=some C:=by
  obtain ⟨q,j,h1,h2,h3,h4,h5⟩:=exists_back h hp ha
  exact ⟨q,h1,h2,walk_back h h1 h2 h4 h5 h3⟩
theorem exists_cyc {D:Dat} {A:Asg} (h:WF D) {p:Nat} (hp:p < D.n) (ha:A p=none):∃ C,Cyc D A C:=by
  obtain ⟨q,h1,h2,C,h3⟩:=progress h hp ha
  exact ⟨C,(cyc_of_walk h h1 h2 h3).1⟩
theorem out_exists {D:Dat} (h:WF D):∀ (k:Nat) (A:Asg),left D A≤k→∃ F,Out D A F:=by
  intro k
  induction k with
  | zero =>
    intro A hk
    refine ⟨A,.done fun p hp ha=>?_⟩
    obtain ⟨C,hC⟩:=exists_cyc h hp ha
    have:=left_exec hC;omega
  | succ k ih =>
    intro A hk
    by_cases hd:∀ p,p < D.n→A p≠none
    · exact ⟨A,.done hd⟩
    · obtain ⟨p,hp⟩:=Classical.not_forall.1 hd
      have hpn:p < D.n:=Classical.byContradiction fun h=>hp (fun h'=>absurd h' h)
      have ha:A p=none:=Classical.byContradiction fun h=>hp (fun _=>h)
      obtain ⟨C,hC⟩:=exists_cyc h hpn ha
      obtain ⟨F,hF⟩:=ih (exec D A C) (by have:=left_exec hC;omega)
      exact ⟨F,.step hC hF⟩
theorem not_done {D:Dat} {A:Asg} {C:List Nat} (hC:Cyc D A C):¬ ∀ p,p < D.n→A p≠none:=by
  intro h
  obtain ⟨p,hp⟩:=List.exists_mem_of_ne_nil C hC.ne
  exact h p (hC.mem p hp).1 (hC.mem p hp).2
/-- Whatever cycles are carried out first, the outcome is the same. -/
theorem out_uniq {D:Dat} (h:WF D):∀ (k:Nat) (A:Asg),left D A≤k→Inv D A→∀ F F',Out D A F→Out D A F'→F=F':=by
  intro k
  induction k with
  | zero =>
    intro A hk hI F F' h1 h2
    cases h1 with
    | done hd=>cases h2 with
      | done _=>rfl
      | step hC _=>exact absurd hd (not_done hC)
    | step hC _=>have:=left_exec hC;omega
  | succ k ih =>
    intro A hk hI F F' h1 h2
    cases h1 with
    | done hd=>cases h2 with
      | done _=>rfl
      | step hC _=>exact absurd hd (not_done hC)
    | @step _ _ C hC h1=>cases h2 with
      | done hd=>exact absurd hd (not_done hC)
      | @step _ _ C' hC' h2 =>
        have l1:=left_exec hC
        have l2:=left_exec hC'
        by_cases hd:∀ x ∈ C,x ∉ C'
        · have hc1:=cyc_apart h hI hC hC' hd
          have hd':∀ x ∈ C',x ∉ C:=fun x a b=>hd x b a
          have hc2:=cyc_apart h hI hC' hC hd'
          have hI1:=inv_exec h hI hC
          have hI2:=inv_exec h hI hC'
          obtain ⟨F3,h3⟩:=out_exists h _ (exec D (exec D A C) C') (Nat.le_refl _)
          have e1:=ih _ (by omega) hI1 F F3 h1 (.step hc1 h3)
          rw [exec_comm h hI hC hC' hd] at h3
          have e2:=ih _ (by omega) hI2 F' F3 h2 (.step hc2 h3)
          rw [e1,e2]
        · have:∃ x,x ∈ C∧x ∈ C':=Classical.byContradiction fun hn=>hd fun x a b=>hn ⟨x,a,b⟩
          obtain ⟨x,a,b⟩:=this
          rw [exec_same (same_mem hC hC' a b)] at h1
          exact ih _ (by omega) (inv_exec h hI hC') F F' h1 h2
theorem out_step {D:Dat} {A F:Asg} {C:List Nat} (h:WF D) (hI:Inv D A) (hO:Out D A F) (hC:Cyc D A C):Out D (exec D A C) F:=by
  obtain ⟨F',h1⟩:=out_exists h _ (exec D A C) (Nat.le_refl _)
  rw [out_uniq h _ A (Nat.le_refl _) hI F F' hO (.step hC h1)]
  exact h1
/-- What is said of an outcome. -/
theorem out_inv {D:Dat} (h:WF D) {A F:Asg} (hO:Out D A F):Inv D A→Inv D F∧(∀ p,p < D.n→F p≠none)∧(∀ p f,A p=some f→F p=some f)∧∀ p f,p < D.n→A p=none→F p=some f→f≠0→takenB D A f=false:=by
  induction hO with
  | done hd=>exact fun hI=>⟨hI,hd,fun p f h=>h,fun p f hp ha=>absurd ha (hd p hp)⟩
  | @step A F C hC hO ih =>
    intro hI
    obtain ⟨i1,i2,i3,i4⟩:=ih (inv_exec h hI hC)
    refine ⟨i1,i2,fun p f ha=>i3 p f ?_,fun p f hp ha hF h0=>?_⟩
    · rw [exec_out (fun hm=>by rw [(hC.mem p hm).2] at ha;cases ha)];exact ha
    · by_cases hm:p ∈ C
      · rw [i3 p (want D A p) (exec_in hm)] at hF
        cases hF
        exact want_free h hI hp ha h0
      · have h5:=i4 p f hp (by rw [exec_out hm];exact ha) hF h0
        cases ht:takenB D A f with
        | false=>rfl
        | true=>rw [(taken_exec hC.mem).2 (.inl ht)] at h5;cases h5
/-! what an outcome is good for -/
/-- Two givens that differ in the ranking of k alone, and in the order so that k may come earlier by the second. -/
structure Like (D D':Dat) (k:Nat):Prop where
  n:D'.n=D.n
  own:D'.own=D.own
  rank:∀ p,p≠k→D'.rank p=D.rank p
  order:∀ A:Asg,A k=none→first D' A=k ∨ first D' A=first D A
theorem Like.taken {D D':Dat} {k:Nat} (h:Like D D' k) (A:Asg) (f:Int):takenB D' A f=takenB D A f:=by unfold takenB;rw [h.n]
theorem Like.want {D D':Dat} {k:Nat} (h:Like D D' k) (A:Asg) {p:Nat} (hp:p≠k):T.want D' A p=T.want D A p:=by
  unfold T.want
  rw [h.rank p hp]
  have:goodB D' A p=goodB D A p:=by funext f;unfold goodB;rw [h.taken,h.own]
  rw [this]
theorem Like.tenant {D D':Dat} {k:Nat} (h:Like D D' k) (A:Asg) (f:Int):T.tenant D' A f=T.tenant D A f:=by unfold T.tenant;rw [h.n,h.own]
/-- A cycle of the second that k is not on is one of the first. -/
theorem Like.cyc {D D':Dat} {k:Nat} (h:Like D D' k) {A:Asg} (ha:A k=none) {C:List Nat} (hC:Cyc D' A C) (hk:k ∉ C):Cyc D A C∧exec D A C=exec D' A C:=by
  have hne:∀ p ∈ C,p≠k:=fun p hp e=>hk (by rw [← e];exact hp)
  constructor
  · refine cyc_of_next hC (fun p hp=>⟨by rw [← h.n];exact (hC.mem p hp).1,(hC.mem p hp).2⟩) (fun p hp=>?_)
    have h5:=hC.cl p hp
    unfold next at h5 ⊢
    rw [h.want A (hne p hp)] at h5 ⊢
    by_cases h0:T.want D A p=0
    · rw [if_pos h0,if_pos h0]
    · rw [if_neg h0] at h5 ⊢
      rw [if_neg h0]
      unfold owner at h5 ⊢
      rw [h.tenant] at h5 ⊢
      cases ht:T.tenant D A (T.want D A p) with
      | some t=>rfl
      | none =>
        rw [ht] at h5
        show first D A=first D' A
        rcases h.order A ha with e|e
        · exact absurd h5 (by show ¬ first D' A ∈ C;rw [e];exact hk)
        · exact e.symm
  · funext q
    by_cases hq:q ∈ C
    · rw [exec_in hq,exec_in hq,h.want A (hne q hq)]
    · rw [exec_out hq,exec_out hq]
/-- Behind k's going its ranking plays no part. -/
theorem out_like {D D':Dat} {k:Nat} (h:Like D D' k) (ho:D'.order=D.order):∀ {A F:Asg},Out D A F→A k≠none→Out D' A F:=by
  intro A F hO
  induction hO with
  | done hd=>exact fun _=>.done fun p hp=>hd p (by rw [← h.n];exact hp)
  | @step A F C hC hO ih =>
    intro ha
    have hkC:k ∉ C:=fun hm=>ha (hC.mem k hm).2
    have hne:∀ p ∈ C,p≠k:=fun p hp e=>hkC (by rw [← e];exact hp)
    have hf:first D' A=first D A:=by unfold first;rw [ho]
    have hC':Cyc D' A C:=cyc_of_next hC (fun p hp=>⟨by rw [h.n];exact (hC.mem p hp).1,(hC.mem p hp).2⟩) (fun p hp=>by
      unfold next owner
      rw [h.want A (hne p hp),h.tenant,hf])
    have he:exec D' A C=exec D A C:=by
      funext q
      by_cases hq:q ∈ C
      · rw [exec_in hq,exec_in hq,h.want A (hne q hq)]
      · rw [exec_out hq,exec_out hq]
    refine .step hC' ?_
    rw [he]
    exact ih (by rw [exec_out hkC];exact ha)
/-- Who gets the same by another ranking lets all others get the same. -/
theorem others {D D':Dat} {k:Nat} (hD:WF D) (hD':WF D') (h:Like D D' k) (ho:D'.order=D.order) (hk:k < D.n):∀ (m:Nat) (A:Asg),left D A≤m→Inv D A→Inv D' A→A k=none→∀ F F',Out D A F→Out D' A F'→F k=F' k→F=F':=by
  intro m
  induction m with
  | zero =>
    intro A hm hI hI' ha
    obtain ⟨C,hC⟩:=exists_cyc hD hk ha
    have:=left_exec hC;omega
  | succ m ih =>
    intro A hm hI hI' ha F F' hO hO' hF
    have hk':k < D'.n:=by rw [h.n];exact hk
    have hfr:first D' A=first D A:=by unfold first;rw [ho]
    by_cases hex:∃ C,Cyc D' A C∧k ∉ C
    · obtain ⟨C,hC',hkC⟩:=hex
      obtain ⟨hC,he⟩:=h.cyc ha hC' hkC
      have:=left_exec hC
      exact ih (exec D A C) (by omega) (inv_exec hD hI hC) (by rw [he];exact inv_exec hD' hI' hC') (by rw [exec_out hkC];exact ha) F F' (out_step hD hI hO hC) (by rw [he];exact out_step hD' hI' hO' hC') hF
    · obtain ⟨C',hC'⟩:=exists_cyc hD' hk' ha
      have hkC':k ∈ C':=Classical.byContradiction fun hn=>hex ⟨C',hC',hn⟩
      have h1':=(out_inv hD' (out_step hD' hI' hO' hC') (inv_exec hD' hI' hC')).2.2.1 k _ (exec_in hkC')
      have hL':Like D' D k:=⟨h.n.symm,h.own.symm,fun p hp=>(h.rank p hp).symm,fun A' _=>.inr (by unfold first;rw [ho])⟩
      obtain ⟨C,hC⟩:=exists_cyc hD hk ha
      have hkC:k ∈ C:=Classical.byContradiction fun hn=>hex ⟨C,(hL'.cyc ha hC hn).1,hn⟩
      have h1:=(out_inv hD (out_step hD hI hO hC) (inv_exec hD hI hC)).2.2.1 k _ (exec_in hkC)
      have hw:want D A k=want D' A k:=by rw [h1,h1'] at hF;exact Option.some.inj hF
      have hwa:∀ p,want D' A p=want D A p:=fun p=>by
        by_cases e:p=k
        · rw [e,hw]
        · exact h.want A e
      have hC2:Cyc D' A C:=cyc_of_next hC (fun p hp=>⟨by rw [h.n];exact (hC.mem p hp).1,(hC.mem p hp).2⟩) (fun p hp=>by
        unfold next owner
        rw [hwa,h.tenant,hfr])
      have he:exec D' A C=exec D A C:=by
        funext q
        by_cases hq:q ∈ C
        · rw [exec_in hq,exec_in hq,hwa]
        · rw [exec_out hq,exec_out hq]
      have h3:=out_like h ho (out_step hD hI hO hC) (by rw [exec_in hkC];simp)
      have h4:=out_step hD' hI' hO' hC2
      rw [he] at h4
      have hI2:=inv_exec hD' hI' hC2
      rw [he] at hI2
      exact out_uniq hD' _ _ (Nat.le_refl _) hI2 _ _ h3 h4
end Go.Proofs.Ytjgnkhfgmpaljaa.T
namespace Go.Proofs.Ytjgnkhfgmpaljaa.T
set_option linter.unusedSimpArgs false
set_option linter.unusedVariables false
/-- Those go that get nothing. -/
def leaveA (D:Dat) (A:Asg):Asg:=fun p=>if p < D.n∧A p=none∧want D A p=0 then some 0 else A p
/-- The first cycle that is found, in the order. -/
def findC (D:Dat) (A:Asg):Option (List Nat):=D.order.findSome? fun p=>if (A p).isSome then none else cycleAt D A p
abbrev Rg:=Bool × List Nat
/-- Which of a cycle gets a flat without a tenant. -/
def freeI (D:Dat) (A:Asg) (C:List Nat):Option Nat:=(List.range C.length).foldl (fun r i=>if (tenant D A (want D A (C.getD i 0))).isNone then some i else r) none
def chained (C:List Nat) (i:Nat):List Nat:=(C.take (i + 1)).reverse ++ (C.drop (i + 1)).reverse
/-- A chain goes on from the one that left its first flat; else it is a ring of its own. -/
def putR (D:Dat) (f:Int) (x:List Nat):List Rg→List Rg
  | []=>[(true,x)]
  | r :: l=>if r.1=true∧D.own (r.2.getLastD 0)=f then (r.1,r.2 ++ x) :: l else r :: putR D f x l
def note (D:Dat) (A:Asg) (C:List Nat) (l:List Rg):List Rg :=
  match freeI D A C with
  | none=>if 1 < C.length then l ++ [(false,C)] else l
  | some i=>putR D (want D A (C.getD i 0)) (chained C i) l
structure St where
  A:Asg
  l:List Rg
def stepS (D:Dat) (s:St):St :=
  let C:=(findC D s.A).getD []
  ⟨leaveA D (exec D s.A C),note D s.A C s.l⟩
def runS (D:Dat):Nat→St→St
  | 0,s=>s
  | k + 1,s=>if (D.order.find? fun p=>(s.A p).isNone).isNone then s else runS D k (stepS D s)
def start (D:Dat):St:=⟨leaveA D fun _=>none,[]⟩
def final (D:Dat):St:=runS D (D.n + 1) (start D)
section
variable {D:Dat} {A:Asg}
theorem find_none (h:WF D):(D.order.find? fun p=>(A p).isNone)=none ↔ ∀ p,p < D.n→A p≠none:=by
  rw [List.find?_eq_none]
  constructor
  · intro h1 p hp ha;exact h1 p (h.all p hp) (by rw [ha];rfl)
  · intro h1 p hp;simpa using h1 p (h.bd p hp)
/-- One party that gets nothing is a cycle by itself. -/
theorem cyc_one {p:Nat} (hp:p < D.n) (ha:A p=none) (hw:want D A p=0):Cyc D A [p]:=by
  have hn:next D A p=p:=by unfold next;rw [if_pos hw]
  refine ⟨by simp,fun q hq=>?_,fun q hq=>?_,fun q hq r hr=>?_,fun q hq r hr _=>?_⟩ <;> rw [List.mem_singleton] at hq <;> subst hq
  · exact ⟨hp,ha⟩
  · rw [hn];simp
  · rw [List.mem_singleton] at hr;subst hr;exact ⟨0,rfl⟩
  · rw [List.mem_singleton] at hr;exact hr.symm
def leaveL (D:Dat) (A:Asg) (l:List Nat):Asg:=fun p=>if p ∈ l∧p < D.n∧A p=none∧want D A p=0 then some 0 else A p
theorem taken_leave (l:List Nat) {f:Int} (h0:f≠0):takenB D (leaveL D A l) f=takenB D A f:=by
  have:takenB D (leaveL D A l) f=true ↔ takenB D A f=true:=by
    rw [taken_iff,taken_iff]
    constructor
    · rintro ⟨q,hq,he⟩
      unfold leaveL at he
      split at he
      · cases he;exact absurd rfl h0
      · exact ⟨q,hq,he⟩
    · rintro ⟨q,hq,he⟩
      refine ⟨q,hq,?_⟩
      unfold leaveL
      rw [if_neg (by rintro ⟨_,_,h,_⟩;rw [he] at h;cases h)];exact he
  cases h1:takenB D (leaveL D A l) f with
  | true=>exact (this.1 h1).symm
  | false =>
    cases h2:takenB D A f with
    | false=>rfl
    | true=>rw [this.2 h2] at h1;cases h1
theorem find_ext {α:Type} {p q:α→Bool}:∀ {l:List α},(∀ x ∈ l,p x=q x)→l.find? p=l.find? q
  | [],_=>rfl
  | a :: l,h=>by
    rw [List.find?_cons,List.find?_cons,h a List.mem_cons_self,find_ext fun x hx=>h x (List.mem_cons_of_mem _ hx)]
theorem want_leave (h:WF D) (l:List Nat) {p:Nat} (hp:p < D.n):want D (leaveL D A l) p=want D A p:=by
  unfold want
  rw [find_ext fun f hf=>?_]
  unfold goodB
  by_cases h0:f=0
  · have:f=D.own p:=by rw [h0,zero_own h hp (by rw [← h0];exact hf)]
    simp [this]
  · rw [taken_leave l h0]
theorem out_leaveL (h:WF D) {F:Asg}:∀ l:List Nat,Out D (leaveL D A l) F→Out D A F:=by
  intro l
  induction l with
  | nil =>
    intro hO
    have:leaveL D A []=A:=by funext p;unfold leaveL;simp
    rw [this] at hO;exact hO
  | cons a l ih =>
    intro hO
    by_cases hc:a < D.n∧leaveL D A l a=none∧want D A a=0
    · obtain ⟨h1,h2,h3⟩:=hc
      refine ih (.step (cyc_one h1 h2 (by rw [want_leave h l h1];exact h3)) ?_)
      have:exec D (leaveL D A l) [a]=leaveL D A (a :: l):=by
        funext p
        by_cases e:p=a
        · subst e
          rw [exec_in (by simp),want_leave h l h1,h3]
          unfold leaveL at h2 ⊢
          split at h2
          · cases h2
          · rw [if_pos ⟨by simp,h1,h2,h3⟩]
        · rw [exec_out (by simpa using e)]
          unfold leaveL
          simp [e]
      rw [this];exact hO
    · have:leaveL D A (a :: l)=leaveL D A l:=by
        funext p
        by_cases e:p=a
        · subst e
          unfold leaveL at hc ⊢
          by_cases hm:p ∈ l
          · simp [hm]
          · by_cases h1:p < D.n∧A p=none∧want D A p=0
            · exfalso
              apply hc
              refine ⟨h1.1,?_,h1.2.2⟩
              rw [if_neg (fun h=>hm h.1)];exact h1.2.1
            · rw [if_neg (fun h=>h1 h.2),if_neg (fun h=>h1 h.2)]
        · unfold leaveL;simp [e]
      rw [this] at hO;exact ih hO
theorem leave_eq:leaveA D A=leaveL D A (List.range D.n):=by
  funext p
  unfold leaveA leaveL
  by_cases h1:p < D.n
  · simp [h1]
  · simp [h1]
theorem out_leave (h:WF D) {F:Asg} (hO:Out D (leaveA D A) F):Out D A F:=by rw [leave_eq] at hO;exact out_leaveL h _ hO
theorem inv_leaveL (h:WF D) (hI:Inv D A):∀ l:List Nat,Inv D (leaveL D A l):=by
  intro l
  refine ⟨fun p hp ha h0=>?_,fun p q f hp hq h1 h2 h0=>?_,fun p f hp h1=>?_,fun p hp ha h0=>own_mem h hp⟩
  · rw [taken_leave l h0]
    refine hI.free p hp ?_ h0
    unfold leaveL at ha
    split at ha
    · cases ha
    · exact ha
  · unfold leaveL at h1 h2
    split at h1
    · cases h1;exact absurd rfl h0
    · split at h2
      · cases h2;exact absurd rfl h0
      · exact hI.inj p q f hp hq h1 h2 h0
  · unfold leaveL at h1
    split at h1
    · rename_i hc
      cases h1;rw [← hc.2.2.2];exact want_mem h hp
    · exact hI.rk p f hp h1
theorem inv_leave (h:WF D) (hI:Inv D A):Inv D (leaveA D A):=by rw [leave_eq];exact inv_leaveL h hI _
theorem leave_none {p:Nat} (hp:p < D.n):leaveA D A p=none ↔ A p=none∧want D A p≠0:=by
  unfold leaveA
  by_cases h1:A p=none <;> by_cases h2:want D A p=0 <;> simp [h1,h2,hp]
theorem want_leaveA (h:WF D) {p:Nat} (hp:p < D.n):want D (leaveA D A) p=want D A p:=by rw [leave_eq];exact want_leave h _ hp
/-- All who are left want a flat. -/
def Wants (D:Dat) (A:Asg):Prop:=∀ p,p < D.n→A p=none→want D A p≠0
theorem wants_leave (h:WF D):Wants D (leaveA D A):=by
  intro p hp ha
  rw [want_leaveA h hp]
  exact ((leave_none hp).1 ha).2
/-- The search finds a cycle. -/
theorem findC_some (h:WF D) {p:Nat} (hp:p < D.n) (ha:A p=none):∃ C,findC D A=some C∧Cyc D A C∧C.Nodup∧∃ q j,q < D.n∧A q=none∧1≤j∧C=orb (next D A) q j∧it (next D A) j q=q:=by
  obtain ⟨q,h1,h2,C,h3⟩:=progress h hp ha
  have:∃ C,findC D A=some C:=by
    unfold findC
    cases hf:D.order.findSome? (fun p=>if (A p).isSome then none else cycleAt D A p) with
    | some C=>exact ⟨C,rfl⟩
    | none =>
      rw [List.findSome?_eq_none_iff] at hf
      have:=hf q (h.all q h1)
      rw [if_neg (by rw [h2];decide),h3] at this
      cases this
  obtain ⟨C,hC⟩:=this
  refine ⟨C,hC,?_⟩
  unfold findC at hC
  obtain ⟨q,h4,h5⟩:=List.exists_of_findSome?_eq_some hC
  by_cases h6:(A q).isSome=true
  · rw [if_pos h6] at h5;cases h5
  · rw [if_neg h6] at h5
    have h7:A q=none:=by simpa using h6
    obtain ⟨a,b,j,c,d,e⟩:=cyc_of_walk h (h.bd q h4) h7 h5
    exact ⟨a,b,q,j,h.bd q h4,h7,c,d,e⟩
theorem left_leave (h:WF D):left D (leaveA D A)≤left D A:=by
  unfold left
  have:∀ l:List Nat,(l.filter fun p=>(leaveA D A p).isNone).length≤(l.filter fun p=>(A p).isNone).length:=by
    intro l
    induction l with
    | nil=>exact Nat.le_refl _
    | cons a l ih =>
      simp only [List.filter_cons]
      have:(leaveA D A a).isNone=true→(A a).isNone=true:=by
        intro h1
        unfold leaveA at h1
        split at h1
        · cases h1
        · exact h1
      cases h1:(leaveA D A a).isNone with
      | true=>rw [this h1];simpa using ih
      | false=>cases h2:(A a).isNone <;> simp <;> omega
  exact this _
theorem run_out (h:WF D):∀ (k:Nat) (s:St),left D s.A < k→Inv D s.A→Out D s.A (runS D k s).A:=by
  intro k
  induction k with
  | zero=>intro s hk;omega
  | succ k ih =>
    intro s hk hI
    unfold runS
    by_cases hd:∀ p,p < D.n→s.A p≠none
    · rw [(find_none h).2 hd];exact .done hd
    · have hn:¬ (D.order.find? fun p=>(s.A p).isNone).isNone=true:=by
        intro hn
        exact hd ((find_none h).1 (by simpa using hn))
      rw [if_neg hn]
      obtain ⟨p,hp⟩:=Classical.not_forall.1 hd
      have hpn:p < D.n:=Classical.byContradiction fun h=>hp (fun h'=>absurd h' h)
      have ha:s.A p=none:=Classical.byContradiction fun h=>hp (fun _=>h)
      obtain ⟨C,h1,h2,_⟩:=findC_some h hpn ha
      have e:stepS D s=⟨leaveA D (exec D s.A C),note D s.A C s.l⟩:=by unfold stepS;rw [h1];rfl
      rw [e]
      have:=left_exec h2
      have:=left_leave (A:=exec D s.A C) h
      exact .step h2 (out_leave h (ih ⟨leaveA D (exec D s.A C),note D s.A C s.l⟩ (by show left D (leaveA D (exec D s.A C)) < k;omega) (inv_leave h (inv_exec h hI h2))))
theorem left_le (A:Asg):left D A≤D.n:=by
  unfold left
  have:=List.length_filter_le (fun p=>(A p).isNone) (List.range D.n)
  rw [List.length_range] at this;exact this
/-- What the run comes to is the outcome. -/
theorem out_final (h:WF D):Out D (fun _=>none) (final D).A:=by
  unfold final start
  exact out_leave h (run_out h (D.n + 1) ⟨leaveA D fun _=>none,[]⟩ (by show left D (leaveA D fun _=>none) < _;have:=left_le (D:=D) (leaveA D fun _=>none);omega) (inv_leave h (inv0 h)))
end
end Go.Proofs.Ytjgnkhfgmpaljaa.T
namespace Go.Proofs.Ytjgnkhfgmpaljaa.T
set_option linter.unusedSimpArgs false
set_option linter.unusedVariables false
structure RI (D:Dat) (s:St):Prop where
  gone:∀ r ∈ s.l,∀ p ∈ r.2,p < D.n∧s.A p≠none
  nd:(s.l.flatMap fun r=>r.2).Nodup
  ne:∀ r ∈ s.l,r.2≠[]∧(r.1=false→2≤r.2.length)
  mv:∀ r ∈ s.l,∀ p ∈ r.2,s.A p≠some (D.own p)
  hd:∀ r ∈ s.l,r.1=true→∀ q,q < D.n→s.A (r.2.getD 0 0)≠some (D.own q)
  link:∀ r ∈ s.l,r.1=true→∀ i,i + 1 < r.2.length→s.A (r.2.getD (i + 1) 0)=some (D.own (r.2.getD i 0))
  cyc:∀ r ∈ s.l,r.1=false→∀ i,i < r.2.length→s.A (r.2.getD i 0)=some (D.own (r.2.getD ((i + 1) % r.2.length) 0))
  rest:∀ p,p < D.n→s.A p≠none→(∀ r ∈ s.l,p ∉ r.2)→s.A p=some (D.own p)
  open_:∀ t,t < D.n→s.A t≠none→D.own t≠0→takenB D s.A (D.own t)=false→∃ r ∈ s.l,r.1=true∧r.2.getLastD 0=t
section
variable {D:Dat} {A:Asg} {C:List Nat}
theorem foldl_last {p:Nat→Bool}:∀ (l:List Nat) (r:Option Nat),(∀ i,r=some i→p i=true∧True) →
    (match l.foldl (fun r i=>if p i then some i else r) r with
      | none=>r=none∧∀ i ∈ l,p i=false
      | some i=>p i=true∧(i ∈ l ∨ r=some i))
  | [],r,h=>by
    cases r with
    | none=>simp
    | some i=>simpa using (h i rfl).1
  | a :: l,r,h=>by
    rw [List.foldl_cons]
    by_cases ha:p a=true
    · rw [if_pos ha]
      have:=foldl_last l (some a) (fun i e=>by cases e;exact ⟨ha,trivial⟩)
      split at this <;> rename_i hq
      · exact absurd this.1 (by simp)
      · rename_i i
        refine ⟨this.1,.inl ?_⟩
        rcases this.2 with h1|h1
        · exact List.mem_cons_of_mem _ h1
        · cases h1;exact List.mem_cons_self
    · rw [if_neg ha]
      have:=foldl_last l r h
      split at this <;> rename_i hq
      · refine ⟨this.1,fun i hi=>?_⟩
        rcases List.mem_cons.1 hi with e|hi
        · rw [e];simpa using ha
        · exact this.2 i hi
      · exact ⟨this.1,this.2.imp (List.mem_cons_of_mem _) id⟩
theorem free_none (h:freeI D A C=none):∀ i,i < C.length→(tenant D A (want D A (C.getD i 0))).isNone=false:=by
  have:=foldl_last (p:=fun i=>(tenant D A (want D A (C.getD i 0))).isNone) (List.range C.length) none (fun i e=>by cases e)
  unfold freeI at h
  rw [h] at this
  exact fun i hi=>this.2 i (by simpa using hi)
theorem free_some {i:Nat} (h:freeI D A C=some i):i < C.length∧tenant D A (want D A (C.getD i 0))=none:=by
  have:=foldl_last (p:=fun i=>(tenant D A (want D A (C.getD i 0))).isNone) (List.range C.length) none (fun i e=>by cases e)
  unfold freeI at h
  rw [h] at this
  refine ⟨?_,by simpa using this.1⟩
  rcases this.2 with h1|h1
  · simpa using h1
  · cases h1
theorem orb_get {g:Nat→Nat} {q j i:Nat} (h:i < j):(orb g q j).getD i 0=it g i q:=by
  unfold orb;simp [List.getD_eq_getElem?_getD,h]
theorem orb_len (g:Nat→Nat) (q j:Nat):(orb g q j).length=j:=by unfold orb;simp
theorem orb_next {q j i:Nat} (hb:it (next D A) j q=q) (h:i < j):next D A ((orb (next D A) q j).getD i 0)=(orb (next D A) q j).getD ((i + 1) % j) 0:=by
  rw [orb_get h,← it_succ (next D A)]
  by_cases e:i + 1=j
  · rw [e,hb,Nat.mod_self,orb_get (by omega)];rfl
  · rw [Nat.mod_eq_of_lt (by omega),orb_get (by omega)]
theorem chained_len (C:List Nat) (i:Nat):(chained C i).length=C.length:=by
  unfold chained;simp;omega
theorem mem_chained {C:List Nat} {i p:Nat}:p ∈ chained C i ↔ p ∈ C:=by
  unfold chained
  rw [List.mem_append,List.mem_reverse,List.mem_reverse]
  conv=>rhs;rw [← List.take_append_drop (i + 1) C]
  rw [List.mem_append]
theorem nodup_chained {C:List Nat} {i:Nat} (h:C.Nodup):(chained C i).Nodup:=by
  have hp:(chained C i).Perm C:=by
    unfold chained
    refine ((List.reverse_perm _).append (List.reverse_perm _)).trans ?_
    rw [List.take_append_drop]
  exact hp.nodup_iff.2 h
theorem chained_get {C:List Nat} {i m:Nat} (hi:i < C.length) (hm:m < C.length):(chained C i).getD m 0=C.getD ((i + C.length - m) % C.length) 0:=by
  unfold chained
  simp only [List.getD_eq_getElem?_getD]
  by_cases h:m≤i
  · rw [List.getElem?_append_left (by simp;omega),List.getElem?_reverse (by simp;omega),List.getElem?_take,if_pos (by simp;omega)]
    congr 2
    simp only [List.length_take]
    rw [show i + C.length - m=(i - m) + C.length by omega,Nat.add_mod_right,Nat.mod_eq_of_lt (by omega)]
    omega
  · rw [List.getElem?_append_right (by simp;omega),List.getElem?_reverse (by simp;omega),List.getElem?_drop]
    congr 2
    simp only [List.length_reverse,List.length_take,List.length_drop]
    rw [Nat.mod_eq_of_lt (by omega)]
    omega
theorem getD_mem {l:List Nat} {i:Nat} (h:i < l.length):l.getD i 0 ∈ l:=by
  rw [List.getD_eq_getElem?_getD,List.getElem?_eq_getElem h];exact List.getElem_mem h
theorem mem_getD {l:List Nat} {p:Nat} (h:p ∈ l):∃ i,i < l.length∧l.getD i 0=p:=by
  obtain ⟨i,hi,rfl⟩:=List.getElem_of_mem h
  exact ⟨i,hi,by rw [List.getD_eq_getElem?_getD,List.getElem?_eq_getElem hi];rfl⟩
theorem lastD_get {l:List Nat} (h:l≠[]):l.getLastD 0=l.getD (l.length - 1) 0:=by
  cases l with
  | nil=>exact absurd rfl h
  | cons a l=>simp [List.getLastD_eq_getLast?,List.getLast?_eq_getElem?,List.getD_eq_getElem?_getD]
/-- Of a cycle: whose flat each gets. -/
theorem cyc_tenant (hW:Wants D A) (hC:Cyc D A C) {q j:Nat} (hb:it (next D A) j q=q) (he:C=orb (next D A) q j) {k:Nat} (hk:k < C.length) :
    (tenant D A (want D A (C.getD k 0))=some (C.getD ((k + 1) % C.length) 0)) ∨ (tenant D A (want D A (C.getD k 0))=none∧first D A=C.getD ((k + 1) % C.length) 0):=by
  have hl:C.length=j:=by rw [he,orb_len]
  have hm:=getD_mem hk
  have hn:next D A (C.getD k 0)=C.getD ((k + 1) % C.length) 0:=by rw [hl,he];exact orb_next hb (by omega)
  have h0:=hW _ (hC.mem _ hm).1 (hC.mem _ hm).2
  rw [next_want h0] at hn
  unfold owner at hn
  cases ht:tenant D A (want D A (C.getD k 0)) with
  | some t=>rw [ht] at hn;exact .inl (by rw [← hn];rfl)
  | none=>rw [ht] at hn;exact .inr ⟨rfl,hn⟩
theorem cyc_free (hW:Wants D A) (hC:Cyc D A C) {q j:Nat} (hb:it (next D A) j q=q) (he:C=orb (next D A) q j) {i:Nat} (hi:i < C.length) (hf:tenant D A (want D A (C.getD i 0))=none) {k:Nat} (hk:k < C.length) (hne:C.getD k 0≠C.getD i 0) :
    tenant D A (want D A (C.getD k 0))=some (C.getD ((k + 1) % C.length) 0):=by
  rcases cyc_tenant hW hC hb he hk with h|⟨h,h1⟩
  · exact h
  · exfalso
    rcases cyc_tenant hW hC hb he hi with h2|⟨_,h2⟩
    · rw [hf] at h2;cases h2
    · apply hne
      have hl:C.length=j:=by rw [he,orb_len]
      refine hC.inj _ (getD_mem hk) _ (getD_mem hi) ?_
      have a1:next D A (C.getD k 0)=C.getD ((k + 1) % C.length) 0:=by rw [hl,he];exact orb_next hb (by omega)
      have a2:next D A (C.getD i 0)=C.getD ((i + 1) % C.length) 0:=by rw [hl,he];exact orb_next hb (by omega)
      rw [a1,a2,← h1,← h2]
theorem putR_mem {f:Int} {x:List Nat}:∀ {l:List Rg} {r:Rg},r ∈ putR D f x l→r ∈ l ∨ (∃ r',r' ∈ l∧r'.1=true∧D.own (r'.2.getLastD 0)=f∧r=(true,r'.2 ++ x)) ∨ (r=(true,x)∧∀ r' ∈ l,r'.1=true→D.own (r'.2.getLastD 0)≠f)
  | [],r,h=>by
    simp only [putR,List.mem_singleton] at h
    exact .inr (.inr ⟨h,fun r' hr=>by cases hr⟩)
  | a :: l,r,h=>by
    unfold putR at h
    by_cases hc:a.1=true∧D.own (a.2.getLastD 0)=f
    · rw [if_pos hc] at h
      rcases List.mem_cons.1 h with e|h
      · exact .inr (.inl ⟨a,List.mem_cons_self,hc.1,hc.2,by rw [e,hc.1]⟩)
      · exact .inl (List.mem_cons_of_mem _ h)
    · rw [if_neg hc] at h
      rcases List.mem_cons.1 h with e|h
      · exact .inl (by rw [e];exact List.mem_cons_self)
      · rcases putR_mem h with h1|⟨r',h1,h2⟩|⟨h1,h2⟩
        · exact .inl (List.mem_cons_of_mem _ h1)
        · exact .inr (.inl ⟨r',List.mem_cons_of_mem _ h1,h2⟩)
        · refine .inr (.inr ⟨h1,fun r' hr ht=>?_⟩)
          rcases List.mem_cons.1 hr with e|hr
          · intro e2;rw [e] at ht e2;exact hc ⟨ht,e2⟩
          · exact h2 r' hr ht
theorem putR_perm {f:Int} {x:List Nat}:∀ l:List Rg,((putR D f x l).flatMap fun r=>r.2).Perm ((l.flatMap fun r=>r.2) ++ x)
  | []=>by simp [putR]
  | a :: l=>by
    unfold putR
    split
    · simp only [List.flatMap_cons,List.append_assoc]
      exact (List.Perm.append_left _ List.perm_append_comm)
    · simp only [List.flatMap_cons,List.append_assoc]
      exact List.Perm.append_left _ (putR_perm l)
theorem putR_keep {f:Int} {x:List Nat}:∀ {l:List Rg} {r:Rg},r ∈ l→D.own (r.2.getLastD 0)≠f→r ∈ putR D f x l
  | a :: l,r,h,hne=>by
    unfold putR
    split
    · rename_i hc
      rcases List.mem_cons.1 h with e|h
      · rw [← e] at hc;exact absurd hc.2 hne
      · exact List.mem_cons_of_mem _ h
    · rcases List.mem_cons.1 h with e|h
      · rw [e];exact List.mem_cons_self
      · exact List.mem_cons_of_mem _ (putR_keep h hne)
theorem putR_has {f:Int} {x:List Nat}:∀ (l:List Rg),∃ y,(true,y ++ x) ∈ putR D f x l
  | []=>⟨[],by simp [putR]⟩
  | a :: l=>by
    unfold putR
    split
    · rename_i hc
      exact ⟨a.2,by rw [hc.1];exact List.mem_cons_self⟩
    · obtain ⟨y,hy⟩:=putR_has (f:=f) (x:=x) l
      exact ⟨y,List.mem_cons_of_mem _ hy⟩
theorem getD_app_left {a b:List Nat} {i:Nat} (h:i < a.length):(a ++ b).getD i 0=a.getD i 0:=by rw [List.getD_eq_getElem?_getD,List.getD_eq_getElem?_getD,List.getElem?_append_left h]
theorem getD_app_right {a b:List Nat} {i:Nat} (h:a.length≤i):(a ++ b).getD i 0=b.getD (i - a.length) 0:=by rw [List.getD_eq_getElem?_getD,List.getD_eq_getElem?_getD,List.getElem?_append_right h]
/-- What is gone stays as it was. -/
theorem exec_gone (hC:Cyc D A C) {p:Nat} {f:Int} (h:A p=some f):exec D A C p=some f:=by
  rw [exec_out (fun hm=>by rw [(hC.mem p hm).2] at h;cases h)];exact h
theorem ri_exec (h:WF D) {s:St} (hI:Inv D s.A) (hW:Wants D s.A) (hR:RI D s) (hC:Cyc D s.A C) (hnd:C.Nodup) {q j:Nat} (hb:it (next D s.A) j q=q) (he:C=orb (next D s.A) q j) :
    RI D ⟨exec D s.A C,note D s.A C s.l⟩:=by
  have hl:C.length=j:=by rw [he,orb_len]
  have hpos:0 < C.length:=List.length_pos_iff.2 hC.ne
  have keep:∀ {p:Nat},s.A p≠none→exec D s.A C p=s.A p:=by
    intro p hp
    cases ha:s.A p with
    | none=>exact absurd ha hp
    | some f=>exact exec_gone hC ha
  have inC:∀ {p:Nat},p ∈ C→exec D s.A C p=some (want D s.A p):=fun hp=>exec_in hp
  have notC:∀ {p:Nat},s.A p≠none→p ∉ C:=fun ha hm=>ha (hC.mem _ hm).2
  have w0:∀ {p:Nat},p ∈ C→want D s.A p≠0:=fun hp=>hW _ (hC.mem _ hp).1 (hC.mem _ hp).2
  have getC:∀ {r:Rg},r ∈ s.l→∀ {i:Nat},i < r.2.length→exec D s.A C (r.2.getD i 0)=s.A (r.2.getD i 0):=by
    intro r hr i hi;exact keep (hR.gone _ hr _ (getD_mem hi)).2
  have tk:∀ {f:Int},takenB D (exec D s.A C) f=false→takenB D s.A f=false∧∀ p ∈ C,want D s.A p≠f:=by
    intro f hf
    constructor
    · cases ht:takenB D s.A f with
      | false=>rfl
      | true=>rw [(taken_exec hC.mem).2 (.inl ht)] at hf;cases hf
    · intro p hp e
      rw [(taken_exec hC.mem).2 (.inr ⟨p,hp,e⟩)] at hf;cases hf
  unfold note
  cases hf:freeI D s.A C with
  | none =>
    have hten:∀ k,k < C.length→tenant D s.A (want D s.A (C.getD k 0))=some (C.getD ((k + 1) % C.length) 0):=by
      intro k hk
      rcases cyc_tenant hW hC hb he hk with h1|⟨h1,_⟩
      · exact h1
      · have:=free_none hf k hk;rw [h1] at this;cases this
    have hto:∀ k,k < C.length→want D s.A (C.getD k 0)=D.own (C.getD ((k + 1) % C.length) 0):=fun k hk=>(tenant_inv (hten k hk)).2.1.symm
    have hopen:∀ t,t ∈ C→takenB D (exec D s.A C) (D.own t)=true:=by
      intro t ht
      obtain ⟨i,hi,rfl⟩:=mem_getD ht
      refine (taken_exec hC.mem).2 (.inr ?_)
      by_cases hi0:i=0
      · refine ⟨C.getD (C.length - 1) 0,getD_mem (by omega),?_⟩
        rw [hto _ (by omega),show C.length - 1 + 1=C.length by omega,Nat.mod_self,hi0]
      · refine ⟨C.getD (i - 1) 0,getD_mem (by omega),?_⟩
        rw [hto _ (by omega),show i - 1 + 1=i by omega,Nat.mod_eq_of_lt hi]
    show RI D ⟨exec D s.A C,if 1 < C.length then s.l ++ [(false,C)] else s.l⟩
    by_cases h1:1 < C.length
    · rw [if_pos h1]
      have mem':∀ {r:Rg},r ∈ s.l ++ [(false,C)]→r ∈ s.l ∨ r=(false,C):=fun hr=>by simpa using hr
      refine ⟨fun r hr p hp=>?_,?_,fun r hr=>?_,fun r hr p hp=>?_,fun r hr ht q hq=>?_,fun r hr ht i hi=>?_,fun r hr ht i hi=>?_,fun p hp ha hn=>?_,fun t ht ha h0 hfr=>?_⟩
      · rcases mem' hr with hr|rfl
        · have:=hR.gone r hr p hp
          exact ⟨this.1,by show exec D s.A C p≠none;rw [keep this.2];exact this.2⟩
        · exact ⟨(hC.mem p hp).1,by show exec D s.A C p≠none;rw [inC hp];simp⟩
      · show ((s.l ++ [(false,C)]).flatMap fun r=>r.2).Nodup
        simp only [List.flatMap_append,List.flatMap_cons,List.flatMap_nil,List.append_nil]
        rw [List.nodup_append]
        refine ⟨hR.nd,hnd,fun a ha b hb' e=>?_⟩
        rw [List.mem_flatMap] at ha
        obtain ⟨r,hr,hp⟩:=ha
        exact notC (hR.gone r hr a hp).2 (by rw [e];exact hb')
      · rcases mem' hr with hr|rfl
        · exact hR.ne r hr
        · exact ⟨hC.ne,fun _=>h1⟩
      · show exec D s.A C p≠_
        rcases mem' hr with hr|rfl
        · rw [keep (hR.gone r hr p hp).2];exact hR.mv r hr p hp
        · rw [inC hp]
          intro e
          have e:=Option.some.inj e
          have hp:p ∈ C:=hp
          obtain ⟨i,hi,rfl⟩:=mem_getD hp
          have h5:tenant D s.A (want D s.A (C.getD i 0))=some (C.getD i 0):=tenant_some h (hC.mem _ hp).1 e.symm (w0 hp) (hC.mem _ hp).2
          rw [hten i hi] at h5
          have h6:=Option.some.inj h5
          have h7:=(List.getElem_inj (h₀:=Nat.mod_lt _ hpos) (h₁:=hi) hnd (xs:=C) (i:=(i + 1) % C.length) (j:=i)).1 (by
            simpa [List.getD_eq_getElem?_getD,List.getElem?_eq_getElem (Nat.mod_lt (i + 1) hpos),List.getElem?_eq_getElem hi] using h6)
          by_cases e3:i + 1=C.length
          · rw [e3,Nat.mod_self] at h7;omega
          · rw [Nat.mod_eq_of_lt (by omega)] at h7;omega
      · rcases mem' hr with hr|rfl
        · show exec D s.A C _≠_
          rw [getC hr (List.length_pos_iff.2 (hR.ne r hr).1)]
          exact hR.hd r hr ht q hq
        · cases ht
      · rcases mem' hr with hr|rfl
        · show exec D s.A C _=_
          rw [getC hr hi]
          exact hR.link r hr ht i hi
        · cases ht
      · rcases mem' hr with hr|rfl
        · show exec D s.A C _=_
          rw [getC hr hi]
          exact hR.cyc r hr ht i hi
        · show exec D s.A C (C.getD i 0)=_
          have hi':i < C.length:=hi
          rw [inC (getD_mem hi'),hto i hi']
      · have hpC:p ∉ C:=hn (false,C) (by simp)
        have ha':exec D s.A C p≠none:=ha
        rw [exec_out hpC] at ha'
        show exec D s.A C p=_
        rw [exec_out hpC]
        exact hR.rest p hp ha' (fun r hr=>hn r (by simp [hr]))
      · by_cases htC:t ∈ C
        · have:=hopen t htC
          have hfr':takenB D (exec D s.A C) (D.own t)=false:=hfr
          rw [this] at hfr';cases hfr'
        · have ha':exec D s.A C t≠none:=ha
          rw [exec_out htC] at ha'
          obtain ⟨r,hr,h6⟩:=hR.open_ t ht ha' h0 (tk hfr).1
          exact ⟨r,by simp [hr],h6⟩
    · rw [if_neg h1]
      have hl1:C.length=1:=by omega
      have hC1:∀ p ∈ C,want D s.A p=D.own p:=by
        intro p hp
        obtain ⟨i,hi,rfl⟩:=mem_getD hp
        have:i=0:=by omega
        subst this
        rw [hto 0 hi,hl1]
      refine ⟨fun r hr p hp=>?_,hR.nd,hR.ne,fun r hr p hp=>?_,fun r hr ht q hq=>?_,fun r hr ht i hi=>?_,fun r hr ht i hi=>?_,fun p hp ha hn=>?_,fun t ht ha h0 hfr=>?_⟩
      · have:=hR.gone r hr p hp
        exact ⟨this.1,by show exec D s.A C p≠none;rw [keep this.2];exact this.2⟩
      · show exec D s.A C p≠_
        rw [keep (hR.gone r hr p hp).2];exact hR.mv r hr p hp
      · show exec D s.A C _≠_
        rw [getC hr (List.length_pos_iff.2 (hR.ne r hr).1)]
        exact hR.hd r hr ht q hq
      · show exec D s.A C _=_
        rw [getC hr hi]
        exact hR.link r hr ht i hi
      · show exec D s.A C _=_
        rw [getC hr hi]
        exact hR.cyc r hr ht i hi
      · show exec D s.A C p=_
        by_cases hpC:p ∈ C
        · rw [inC hpC,hC1 p hpC]
        · have ha':exec D s.A C p≠none:=ha
          rw [exec_out hpC] at ha' ⊢
          exact hR.rest p hp ha' hn
      · by_cases htC:t ∈ C
        · have:=hopen t htC
          have hfr':takenB D (exec D s.A C) (D.own t)=false:=hfr
          rw [this] at hfr';cases hfr'
        · have ha':exec D s.A C t≠none:=ha
          rw [exec_out htC] at ha'
          exact hR.open_ t ht ha' h0 (tk hfr).1
  | some i =>
    obtain ⟨hi,hten⟩:=free_some hf
    show RI D ⟨exec D s.A C,putR D (want D s.A (C.getD i 0)) (chained C i) s.l⟩
    have hiC:=getD_mem hi
    generalize hF:want D s.A (C.getD i 0)=f at *
    have hf0:f≠0:=by rw [← hF];exact w0 hiC
    have hff:takenB D s.A f=false:=by rw [← hF];exact want_free h hI (hC.mem _ hiC).1 (hC.mem _ hiC).2 (by rw [hF];exact hf0)
    have hne:∀ a b,a < C.length→b < C.length→a≠b→C.getD a 0≠C.getD b 0:=by
      intro a b ha hb' hab e
      exact hab ((List.getElem_inj (h₀:=ha) (h₁:=hb') hnd (xs:=C)).1 (by
        simpa [List.getD_eq_getElem?_getD,List.getElem?_eq_getElem ha,List.getElem?_eq_getElem hb'] using e))
    have hto:∀ k,k < C.length→k≠i→want D s.A (C.getD k 0)=D.own (C.getD ((k + 1) % C.length) 0):=fun k hk hki =>
      (tenant_inv (cyc_free hW hC hb he hi (by rw [hF];exact hten) hk (hne k i hk hi hki))).2.1.symm
    -- the chain's parts
    have cl:(chained C i).length=C.length:=chained_len C i
    have c0:(chained C i).getD 0 0=C.getD i 0:=by rw [chained_get hi hpos];rw [Nat.sub_zero,Nat.add_mod_right,Nat.mod_eq_of_lt hi]
    have clink:∀ m,m + 1 < C.length→exec D s.A C ((chained C i).getD (m + 1) 0)=some (D.own ((chained C i).getD m 0)):=by
      intro m hm
      have hmC:(chained C i).getD (m + 1) 0 ∈ C:=mem_chained.1 (getD_mem (by rw [cl];omega))
      rw [inC hmC,chained_get hi hm,chained_get hi (by omega)]
      congr 1
      have hk1:(i + C.length - (m + 1)) % C.length≠i:=by
        by_cases hmi:m + 1≤i
        · rw [show i + C.length - (m + 1)=(i - (m + 1)) + C.length by omega,Nat.add_mod_right,Nat.mod_eq_of_lt (by omega)];omega
        · rw [Nat.mod_eq_of_lt (by omega)];omega
      rw [hto _ (Nat.mod_lt _ hpos) hk1]
      congr 2
      rw [Nat.mod_add_mod]
      congr 1;omega
    have clast:(chained C i).getLastD 0=C.getD ((i + 1) % C.length) 0:=by
      rw [lastD_get (by intro e;rw [e] at cl;simp at cl;omega),cl,chained_get hi (by omega)]
      congr 2;omega
    have mv1:∀ p ∈ C,want D s.A p≠D.own p:=by
      intro p hp e
      obtain ⟨k,hk,rfl⟩:=mem_getD hp
      have h5:tenant D s.A (want D s.A (C.getD k 0))=some (C.getD k 0):=tenant_some h (hC.mem _ hp).1 e.symm (w0 hp) (hC.mem _ hp).2
      by_cases hki:k=i
      · rw [hki,hF,hten] at h5;cases h5
      · rw [cyc_free hW hC hb he hi (by rw [hF];exact hten) hk (hne k i hk hi hki)] at h5
        have h6:=Option.some.inj h5
        by_cases e2:(k + 1) % C.length=k
        · by_cases e3:k + 1=C.length
          · rw [e3,Nat.mod_self] at e2;omega
          · rw [Nat.mod_eq_of_lt (by omega)] at e2;omega
        · exact hne _ _ (Nat.mod_lt _ hpos) hk e2 h6
    refine ⟨fun r hr p hp=>?_,?_,fun r hr=>?_,fun r hr p hp=>?_,fun r hr ht q hq=>?_,fun r hr ht k hk=>?_,fun r hr ht k hk=>?_,fun p hp ha hn=>?_,fun t ht ha h0 hfr=>?_⟩
    · show p < D.n∧exec D s.A C p≠none
      have:p ∈ C ∨ ∃ r',r' ∈ s.l∧p ∈ r'.2:=by
        rcases putR_mem hr with h1|⟨r',h1,_,_,rfl⟩|⟨rfl,_⟩
        · exact .inr ⟨r,h1,hp⟩
        · rcases List.mem_append.1 hp with h2|h2
          · exact .inr ⟨r',h1,h2⟩
          · exact .inl (mem_chained.1 h2)
        · exact .inl (mem_chained.1 hp)
      rcases this with h1|⟨r',h1,h2⟩
      · exact ⟨(hC.mem p h1).1,by rw [inC h1];simp⟩
      · have:=hR.gone r' h1 p h2
        exact ⟨this.1,by rw [keep this.2];exact this.2⟩
    · show ((putR D f (chained C i) s.l).flatMap fun r=>r.2).Nodup
      rw [(putR_perm s.l).nodup_iff,List.nodup_append]
      refine ⟨hR.nd,nodup_chained hnd,fun a ha b hb' e=>?_⟩
      rw [List.mem_flatMap] at ha
      obtain ⟨r,hr,hp⟩:=ha
      exact notC (hR.gone r hr a hp).2 (by rw [e];exact mem_chained.1 hb')
    · rcases putR_mem hr with h1|⟨r',h1,_,_,rfl⟩|⟨rfl,_⟩
      · exact hR.ne r h1
      · exact ⟨by simp [(hR.ne r' h1).1],fun e=>by cases e⟩
      · exact ⟨by intro e;have e:chained C i=[]:=e;rw [e] at cl;simp at cl;omega,fun e=>by cases e⟩
    · show exec D s.A C p≠_
      have:p ∈ C ∨ ∃ r',r' ∈ s.l∧p ∈ r'.2:=by
        rcases putR_mem hr with h1|⟨r',h1,_,_,rfl⟩|⟨rfl,_⟩
        · exact .inr ⟨r,h1,hp⟩
        · rcases List.mem_append.1 hp with h2|h2
          · exact .inr ⟨r',h1,h2⟩
          · exact .inl (mem_chained.1 h2)
        · exact .inl (mem_chained.1 hp)
      rcases this with h1|⟨r',h1,h2⟩
      · rw [inC h1];intro e;exact mv1 p h1 (Option.some.inj e)
      · rw [keep (hR.gone r' h1 p h2).2];exact hR.mv r' h1 p h2
    · show exec D s.A C _≠_
      rcases putR_mem hr with h1|⟨r',h1,h2,_,rfl⟩|⟨rfl,hno⟩
      · rw [getC h1 (List.length_pos_iff.2 (hR.ne r h1).1)]
        exact hR.hd r h1 ht q hq
      · have hl':=List.length_pos_iff.2 (hR.ne r' h1).1
        show exec D s.A C ((r'.2 ++ chained C i).getD 0 0)≠_
        rw [getD_app_left hl',getC h1 hl']
        exact hR.hd r' h1 h2 q hq
      · show exec D s.A C ((chained C i).getD 0 0)≠_
        rw [c0,inC hiC,hF]
        intro e
        have e:=Option.some.inj e
        have hqa:s.A q≠none:=fun ha=>tenant_none.1 hten q hq e.symm ha
        obtain ⟨r,hr1,hr2,hr3⟩:=hR.open_ q hq hqa (by rw [← e];exact hf0) (by rw [← e];exact hff)
        exact hno r hr1 hr2 (by rw [hr3,e])
    · show exec D s.A C _=_
      rcases putR_mem hr with h1|⟨r',h1,h2,h3,rfl⟩|⟨rfl,hno⟩
      · rw [getC h1 hk]
        exact hR.link r h1 ht k hk
      · have hk':k + 1 < (r'.2 ++ chained C i).length:=hk
        rw [List.length_append,cl] at hk'
        show exec D s.A C ((r'.2 ++ chained C i).getD (k + 1) 0)=some (D.own ((r'.2 ++ chained C i).getD k 0))
        by_cases hk1:k + 1 < r'.2.length
        · rw [getD_app_left hk1,getD_app_left (by omega),getC h1 hk1]
          exact hR.link r' h1 h2 k hk1
        · rw [getD_app_right (by omega)]
          by_cases hk2:k < r'.2.length
          · rw [getD_app_left hk2,show k + 1 - r'.2.length=0 by omega,c0,inC hiC,hF]
            rw [lastD_get (hR.ne r' h1).1,show r'.2.length - 1=k by omega] at h3
            rw [h3]
          · rw [getD_app_right (by omega),show k + 1 - r'.2.length=(k - r'.2.length) + 1 by omega]
            exact clink _ (by omega)
      · have hk':k + 1 < (chained C i).length:=hk
        rw [cl] at hk'
        exact clink k hk'
    · show exec D s.A C _=_
      rcases putR_mem hr with h1|⟨r',h1,h2,h3,rfl⟩|⟨rfl,hno⟩
      · rw [getC h1 hk]
        exact hR.cyc r h1 ht k hk
      · cases ht
      · cases ht
    · show exec D s.A C p=_
      have hpl:p ∉ (putR D f (chained C i) s.l).flatMap fun r=>r.2:=by
        rw [List.mem_flatMap];rintro ⟨r,hr,h1⟩;exact hn r hr h1
      rw [(putR_perm s.l).mem_iff,List.mem_append] at hpl
      have hpC:p ∉ C:=fun hm=>hpl (.inr (mem_chained.2 hm))
      have ha':exec D s.A C p≠none:=ha
      rw [exec_out hpC] at ha' ⊢
      exact hR.rest p hp ha' (fun r hr hm=>hpl (.inl (List.mem_flatMap.2 ⟨r,hr,hm⟩)))
    · have hfr':takenB D (exec D s.A C) (D.own t)=false:=hfr
      obtain ⟨t1,t2⟩:=tk hfr'
      by_cases htC:t ∈ C
      · obtain ⟨k,hk,e⟩:=mem_getD htC
        have hlast:C.getD ((i + 1) % C.length) 0=t:=by
          have hpre:∀ k',k' < C.length→(k' + 1) % C.length=k→k'=i:=by
            intro k' hk' e1
            refine Classical.byContradiction fun hne'=>?_
            exact t2 _ (getD_mem hk') (by rw [hto k' hk' hne',e1,e])
          by_cases hk0:k=0
          · have:=hpre (C.length - 1) (by omega) (by rw [show C.length - 1 + 1=C.length by omega,Nat.mod_self,hk0])
            rw [← this,show C.length - 1 + 1=C.length by omega,Nat.mod_self,← e,hk0]
          · have:=hpre (k - 1) (by omega) (by rw [show k - 1 + 1=k by omega,Nat.mod_eq_of_lt hk])
            rw [← this,show k - 1 + 1=k by omega,Nat.mod_eq_of_lt hk,e]
        obtain ⟨y,hy⟩:=putR_has (D:=D) (f:=f) (x:=chained C i) s.l
        refine ⟨_,hy,rfl,?_⟩
        show (y ++ chained C i).getLastD 0=t
        have hcne:chained C i≠[]:=by intro e;rw [e] at cl;simp at cl;omega
        rw [← hlast,← clast,lastD_get (by simp [hcne]),lastD_get hcne,getD_app_right (by rw [List.length_append];have:=List.length_pos_iff.2 hcne;omega),List.length_append]
        congr 1;have:=List.length_pos_iff.2 hcne;omega
      · have ha':exec D s.A C t≠none:=ha
        rw [exec_out htC] at ha'
        obtain ⟨r,hr,h6,h7⟩:=hR.open_ t ht ha' h0 t1
        refine ⟨r,putR_keep hr ?_,h6,h7⟩
        rw [h7]
        intro e
        exact t2 _ hiC (by rw [hF,e])
theorem ri_leave (h:WF D) {s:St} (hR:RI D s):RI D ⟨leaveA D s.A,s.l⟩:=by
  have keep:∀ {p:Nat},s.A p≠none→leaveA D s.A p=s.A p:=by
    intro p hp;unfold leaveA;rw [if_neg (fun h=>hp h.2.1)]
  have getC:∀ {r:Rg},r ∈ s.l→∀ {i:Nat},i < r.2.length→leaveA D s.A (r.2.getD i 0)=s.A (r.2.getD i 0):=by
    intro r hr i hi;exact keep (hR.gone _ hr _ (getD_mem hi)).2
  refine ⟨fun r hr p hp=>?_,hR.nd,hR.ne,fun r hr p hp=>?_,fun r hr ht q hq=>?_,fun r hr ht i hi=>?_,fun r hr ht i hi=>?_,fun p hp ha hn=>?_,fun t ht ha h0 hfr=>?_⟩
  · have:=hR.gone r hr p hp
    exact ⟨this.1,by show leaveA D s.A p≠none;rw [keep this.2];exact this.2⟩
  · show leaveA D s.A p≠_
    rw [keep (hR.gone r hr p hp).2];exact hR.mv r hr p hp
  · show leaveA D s.A _≠_
    rw [getC hr (List.length_pos_iff.2 (hR.ne r hr).1)]
    exact hR.hd r hr ht q hq
  · show leaveA D s.A _=_
    rw [getC hr hi]
    exact hR.link r hr ht i hi
  · show leaveA D s.A _=_
    rw [getC hr hi]
    exact hR.cyc r hr ht i hi
  · show leaveA D s.A p=_
    by_cases hc:p < D.n∧s.A p=none∧want D s.A p=0
    · unfold leaveA
      rw [if_pos hc,zero_own h hp (by rw [← hc.2.2];exact want_mem h hp)]
    · have ha':leaveA D s.A p≠none:=ha
      have e:leaveA D s.A p=s.A p:=by unfold leaveA;rw [if_neg hc]
      rw [e] at ha' ⊢
      exact hR.rest p hp ha' hn
  · have hfr':takenB D (leaveA D s.A) (D.own t)=false:=hfr
    rw [leave_eq,taken_leave _ h0] at hfr'
    have ha':leaveA D s.A t≠none:=ha
    by_cases hc:t < D.n∧s.A t=none∧want D s.A t=0
    · exact absurd (zero_own h ht (by rw [← hc.2.2];exact want_mem h ht)) h0
    · have e:leaveA D s.A t=s.A t:=by unfold leaveA;rw [if_neg hc]
      rw [e] at ha'
      exact hR.open_ t ht ha' h0 hfr'
theorem ri_run (h:WF D):∀ (k:Nat) (s:St),Inv D s.A→Wants D s.A→RI D s→RI D (runS D k s):=by
  intro k
  induction k with
  | zero=>exact fun s _ _ hR=>hR
  | succ k ih =>
    intro s hI hW hR
    unfold runS
    by_cases hd:(D.order.find? fun p=>(s.A p).isNone).isNone=true
    · rw [if_pos hd];exact hR
    · rw [if_neg hd]
      have hex:∃ p,p < D.n∧s.A p=none:=by
        refine Classical.byContradiction fun hn=>hd ?_
        rw [(find_none h).2 fun p hp ha=>hn ⟨p,hp,ha⟩];rfl
      obtain ⟨p,hpn,ha⟩:=hex
      obtain ⟨C,h1,h2,h3,q,j,_,_,_,h4,h5⟩:=findC_some h hpn ha
      have e:stepS D s=⟨leaveA D (exec D s.A C),note D s.A C s.l⟩:=by unfold stepS;rw [h1];rfl
      rw [e]
      exact ih _ (inv_leave h (inv_exec h hI h2)) (wants_leave h) (ri_leave (s:=⟨exec D s.A C,note D s.A C s.l⟩) h (ri_exec h hI hW hR h2 h3 h5 h4))
theorem ri0:RI D ⟨fun _=>none,[]⟩:=by
  have no:∀ r:Rg,r ∈ ([]:List Rg)→False:=fun r hr=>by cases hr
  exact ⟨fun r hr=>(no r hr).elim,List.nodup_nil,fun r hr=>(no r hr).elim,fun r hr=>(no r hr).elim,fun r hr=>(no r hr).elim,fun r hr=>(no r hr).elim,fun r hr=>(no r hr).elim,fun p hp ha=>absurd rfl ha,fun t ht ha=>absurd rfl ha⟩
theorem ri_final (h:WF D):RI D (final D):=ri_run h _ _ (inv_leave h (inv0 h)) (wants_leave h) (ri_leave h ri0)
end
end Go.Proofs.Ytjgnkhfgmpaljaa.T
