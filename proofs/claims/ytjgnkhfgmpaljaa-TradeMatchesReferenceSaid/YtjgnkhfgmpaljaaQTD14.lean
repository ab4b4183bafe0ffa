/- Lemmas, readings of functions as plain Lean functions and contracts of functions of the program, for the claimed theorem; each one's conditions stand in its statement. -/
import Derived.StillTail
import Derived.OrdersHeld
import Derived.Deep.RegionHeld3
namespace Go.Proofs.Ytjgnkhfgmpaljaa.P
open Go
set_option linter.unusedVariables false
set_option linter.unnecessarySimpa false
set_option linter.unusedSimpArgs false
section
variable {P:Program} {Q:Exit→Act→World→Prop} {md:Region.Mode} {S:World→Prop}
def splitQ (Q:Exit→Act→World→Prop) (T:Act→World→Prop):Exit→Act→World→Prop
 | .normal,a,w=>T a w
 | e,a,w=>Q e a w
theorem splitQ_out {T:Act→World→Prop} (h:LetsOut (splitQ Q T)):LetsOut Q:=h
theorem wp_splitQ {T:Act→World→Prop} {o:Oper} {a:Act} {w:World} {K:Act→World→Prop} (h:o.wp P a w K (splitQ Q T)):o.wp P a w K Q:=by
 unfold Oper.wp at *
 generalize (execOp a.eval o).run P w=r at *
 cases r with
 | ok n w' =>
  cases n <;> simp only [Oper.upon] at h ⊢ <;>
   first
    | exact h
    | exact Calls.mono h (fun e w'' he=>by cases e <;> exact he)
 | halt x w'=>cases x <;> simp only [Oper.upon] at h ⊢ <;> exact h
theorem wpOp_splitQ {T:Act→World→Prop} {ops ops':Array Oper} {i:Nat} {a:Act} {w:World} {K:Act→World→Prop} {o:Oper} (hi:ops[i]? = some o) (hi':ops'[i]? = some o) (hg:o.guard=none) (h:wpOp P ops' (splitQ Q T) i K a w):wpOp P ops Q i K a w:=by
 unfold wpOp at *
 simp only [hi,hi'] at h ⊢
 have h1:∀ y,Region.wanted o y=true:=fun y=>by unfold Region.wanted;rw [hg]
 rw [h1,if_pos rfl] at h ⊢
 rcases h with h|⟨h,h2⟩
 ·
  exact .inl (wp_splitQ h)
 ·
  exact .inr ⟨h,splitQ_out h2⟩
theorem wpAny_more {ops:Array Oper}:∀ (f:Nat) (listed:Array Bool) (a:Act) (w:World),wpAny P md ops Q f listed a w→wpAny P md ops Q (f + 1) listed a w
 | 0,listed,a,w,h=>⟨fun _=>h.2,fun i hi=>by rw [h.1] at hi;cases hi⟩
 | f + 1,listed,a,w,h=>⟨h.1,fun i hi=>wpOp_mono (fun a' w' h'=>wpAny_more f _ a' w' h') (h.2 i hi)⟩
theorem wpAny_moreN {ops:Array Oper} {f:Nat} {listed:Array Bool} {a:Act} {w:World} (h:wpAny P md ops Q f listed a w):∀ k,wpAny P md ops Q (k + f) listed a w
 | 0=>by rw [Nat.zero_add];exact h
 | k + 1=>by rw [Nat.add_right_comm];exact wpAny_more _ _ _ _ (wpAny_moreN h k)

/-- No guards; each operation waits for earlier ones alone; the tail from n on waits for all ahead of it. -/
def splitB (md:Region.Mode) (l:List Oper) (n:Nat):Bool :=
 decide (n < l.length) && Region.sinkB md l.toArray n && Region.chainB md l.toArray n && l.all (fun o=>o.guard.isNone) &&
  (List.range l.length).all (fun j=>match l[j]? with|some o=>o.after.all fun e=>decide (e.on < j)|none=>true) &&
  Region.seqB md l.toArray (l.length - n) n (Array.replicate n true ++ Array.replicate (l.length - n) false)

theorem getD_ge {l:Array Bool} {i:Nat} {d:Bool} (h:l.size≤i):l.getD i d=d:=by simp [Array.getElem?_eq_none h]
theorem getD_lt {l:Array Bool} {i:Nat} (h:i < l.size) (d e:Bool):l.getD i d=l.getD i e:=by simp [h]

theorem wpAny_split {l:List Oper} {n:Nat} (hB:splitB md l n=true) :
  ∀ (fuel:Nat) (ls ls':Array Bool) (a:Act) (w:World),ls'.size=n→(∀ j,j < n→ls'.getD j true=ls.getD j true)→HeadInv md l.toArray n ls →
   wpAny P md (l.take n).toArray (splitQ Q fun a w=>wpList P l.toArray Q (l.drop n) a w) fuel ls' a w→wpAny P md l.toArray Q (fuel + (l.length - n)) ls a w:=by
 simp only [splitB,Bool.and_eq_true,decide_eq_true_eq] at hB
 obtain ⟨⟨⟨⟨⟨hn,hs⟩,hc⟩,hg⟩,hfw⟩,hseq⟩:=hB
 have hN:n < l.toArray.size:=by simpa using hn
 have hops:∀ j,j < n→(l.take n).toArray[j]? = l.toArray[j]?:=fun j hj=>by simp [List.getElem?_take,hj]
 have hlen':(l.take n).toArray.size=n:=by simp;omega
 intro fuel
 induction fuel with
 | zero =>
  intro ls ls' a w hsz heq inv h
  have hall:∀ j,j < n→ls.getD j true=true:=by
   intro j
   induction j using Nat.strongRecOn with
   | _ j ihj =>
    intro hj
    cases hx:ls.getD j true with
    | true=>rfl
    | false =>
     exfalso
     have hm:j ∈ Region.ready md (l.take n).toArray ls':=by
      rw [mem_ready]
      refine ⟨by rw [heq j hj,hx],_,Array.getElem?_eq_getElem (by rw [hlen'];exact hj),fun e he hb=>?_⟩
      have hlj:l[j]? = some (l.take n).toArray[j]:=by
       have:=hops j hj
       rw [Array.getElem?_eq_getElem (by rw [hlen'];exact hj)] at this
       simpa using this.symm
      have h2:=List.all_eq_true.1 hfw j (List.mem_range.2 (by omega))
      rw [hlj] at h2
      have h3:e.on < j:=by
       have:=Array.all_eq_true'.1 h2 e he
       simpa using this
      rw [getD_lt (by omega) false true,heq e.on (by omega)]
      exact ihj e.on h3 (by omega)
     rw [h.1] at hm
     cases hm
  have hls:ls=Array.replicate n true ++ Array.replicate (l.length - n) false:=by
   have hsz2:ls.size=l.length:=by simpa using inv.size
   apply Array.ext
   ·
    simp [hsz2];omega
   ·
    intro i h1 h2
    rcases Nat.lt_or_ge i n with hi|hi
    ·
     have:=hall i hi
     rw [Array.getElem_append_left (by simpa using hi)]
     simp [h1] at this ⊢
     exact this
    ·
     have:=inv.tail i hi (by simpa [hsz2] using h1)
     rw [Array.getElem_append_right (by simpa using hi)]
     simp [h1] at this ⊢
     exact this
  have h2:wpList P l.toArray Q (l.drop n) a w:=h.2
  have h3:=wpAny_of_seq (md:=md) (Q':=Q) (ops:=l.toArray) (l.drop n) n ls a w (fun j=>by simp [List.getElem?_drop]) (by rw [hls,List.length_drop];exact hseq) h2
  rw [List.length_drop] at h3
  rw [Nat.zero_add];exact h3
 | succ fuel ih =>
  intro ls ls' a w hsz heq inv h
  by_cases hr:Region.ready md (l.take n).toArray ls'=[]
  ·
   have h4:=ih
   clear h4
   have hall:∀ j,j < n→ls.getD j true=true:=by
    intro j
    induction j using Nat.strongRecOn with
    | _ j ihj =>
     intro hj
     cases hx:ls.getD j true with
     | true=>rfl
     | false =>
      exfalso
      have hm:j ∈ Region.ready md (l.take n).toArray ls':=by
       rw [mem_ready]
       refine ⟨by rw [heq j hj,hx],_,Array.getElem?_eq_getElem (by rw [hlen'];exact hj),fun e he hb=>?_⟩
       have hlj:l[j]? = some (l.take n).toArray[j]:=by
        have:=hops j hj
        rw [Array.getElem?_eq_getElem (by rw [hlen'];exact hj)] at this
        simpa using this.symm
       have h2:=List.all_eq_true.1 hfw j (List.mem_range.2 (by omega))
       rw [hlj] at h2
       have h3:e.on < j:=by
        have:=Array.all_eq_true'.1 h2 e he
        simpa using this
       rw [getD_lt (by omega) false true,heq e.on (by omega)]
       exact ihj e.on h3 (by omega)
      rw [hr] at hm
      cases hm
   have hls:ls=Array.replicate n true ++ Array.replicate (l.length - n) false:=by
    have hsz2:ls.size=l.length:=by simpa using inv.size
    apply Array.ext
    ·
     simp [hsz2];omega
    ·
     intro i h1 h2
     rcases Nat.lt_or_ge i n with hi|hi
     ·
      have:=hall i hi
      rw [Array.getElem_append_left (by simpa using hi)]
      simp [h1] at this ⊢
      exact this
     ·
      have:=inv.tail i hi (by simpa [hsz2] using h1)
      rw [Array.getElem_append_right (by simpa using hi)]
      simp [h1] at this ⊢
      exact this
   have h2:wpList P l.toArray Q (l.drop n) a w:=h.1 hr
   have h3:=wpAny_of_seq (md:=md) (Q':=Q) (ops:=l.toArray) (l.drop n) n ls a w (fun j=>by simp [List.getElem?_drop]) (by rw [hls,List.length_drop];exact hseq) h2
   rw [List.length_drop] at h3
   exact wpAny_moreN h3 (fuel + 1)
  ·
   obtain ⟨i0,hi0⟩:=List.exists_mem_of_ne_nil _ hr
   have hup:∀ i,i ∈ Region.ready md (l.take n).toArray ls'→i < n∧i ∈ Region.ready md l.toArray ls:=by
    intro i hi
    obtain ⟨h0,o,ho,hall⟩:=mem_ready.1 hi
    have hin:i < n:=by have:=(Array.getElem?_eq_some_iff.1 ho).1;rwa [hlen'] at this
    refine ⟨hin,mem_ready.2 ⟨by rw [← heq i hin];exact h0,o,by rw [← hops i hin];exact ho,fun e he hb=>?_⟩⟩
    have h5:=hall e he hb
    have hen:e.on < n:=by
     rcases Nat.lt_or_ge e.on n with h6|h6
     ·
      exact h6
     ·
      rw [getD_ge (by omega)] at h5;cases h5
    rw [getD_lt (by rw [inv.size];omega) false true,← heq e.on hen,getD_lt (by omega) true false]
    exact h5
   obtain ⟨hi0n,hi0r⟩:=hup i0 hi0
   have hun0:=(mem_ready.1 hi0r).1
   rw [show fuel + 1 + (l.length - n)=(fuel + (l.length - n)) + 1 by omega]
   refine ⟨fun h0=>(by rw [h0] at hi0r;cases hi0r),fun i hi=>?_⟩
   have hin:i < n:=by
    rcases Nat.lt_or_ge i n with h6|h6
    ·
     exact h6
    ·
     exact absurd hi (tail_waits hs hc hN inv (n - i0) i0 rfl hi0n hun0 i h6)
   have hi':i ∈ Region.ready md (l.take n).toArray ls':=by
    obtain ⟨h0,o,ho,hall⟩:=mem_ready.1 hi
    refine mem_ready.2 ⟨by rw [heq i hin];exact h0,o,by rw [hops i hin];exact ho,fun e he hb=>?_⟩
    have h5:=hall e he hb
    have hlj:l[i]? = some o:=by simpa using ho
    have h2:=List.all_eq_true.1 hfw i (List.mem_range.2 (by omega))
    rw [hlj] at h2
    have h3:e.on < i:=by
     have:=Array.all_eq_true'.1 h2 e he
     simpa using this
    rw [getD_lt (by omega) false true,heq e.on (by omega),getD_lt (by rw [inv.size];omega) true false]
    exact h5
   obtain ⟨_,o,ho,_⟩:=mem_ready.1 hi
   have hog:o.guard=none:=by
    have hlj:l[i]? = some o:=by simpa using ho
    have:=List.all_eq_true.1 hg o (List.mem_of_getElem? hlj)
    simpa using this
   refine wpOp_splitQ ho (by rw [hops i hin];exact ho) hog (wpOp_mono (fun a' w' h'=>?_) (h.2 i hi'))
   refine ih _ _ a' w' (by simp [hsz]) (fun j hj=>?_) (inv.set hi hin) h'
   by_cases hij:i=j
   ·
    subst hij
    rw [show (ls'.setIfInBounds i true).getD i true=true by simp [hsz,hin],show (ls.setIfInBounds i true).getD i true=true by simp [inv.size]]
   ·
    rw [getD_set_ne true hij,getD_set_ne true hij];exact heq j hj

theorem wp_region_split {id:Nat} {a:Act} {w:World} {l:List Oper} (n:Nat) (S:World→Prop) (hm:P.follows .mixedOrders=true) (hB:splitB .any l n=true)
  (h:wpAnyH P .any (l.take n).toArray (splitQ Q fun a w=>wpList P l.toArray Q (l.drop n) a w) S n (Array.replicate n false) a w.drew):(Code.region id l.toArray true).wp P Q a w:=by
 refine wp_region_any hm ?_
 have hB':=hB
 simp only [splitB,Bool.and_eq_true,decide_eq_true_eq] at hB'
 have hn:=hB'.1.1.1.1.1
 have inv0:HeadInv .any l.toArray n (Array.replicate l.toArray.size false) :=
  ⟨by simp,fun j oj _ hl=>(by rw [getD_replicate_false] at hl;cases hl),fun t _ ht=>getD_in (by simpa using ht) (getD_replicate_false _ _)⟩
 have h1:=wpAny_split (md:=.any) (Q:=Q) hB n (Array.replicate l.toArray.size false) (Array.replicate n false) a w.drew (by simp) (fun j hj=>by
  have hj2:j < l.length:=by omega
  simp [hj,hj2]) inv0 (wpAny_of_held _ _ _ _ h)
 rw [show n + (l.length - n)=l.toArray.size by simp;omega] at h1
 exact h1
/-- Number i first: by a list's form, so that the operation comes written out. -/
theorem take_held {l:List Oper} (i:Nat) {oi:Oper} {v:Value} {fuel:Nat} {listed:Array Bool} {a:Act} {w:World} (hi:l[i]? = some oi)
  (hs:Region.noSelect l.toArray=true) (hf:Region.free md l.toArray listed i=true) (hr:(Region.ready md l.toArray listed).contains i=true)
  (hQ:∀ c a w,Q (.panic c) (a.put oi.dst v) w→Q (.panic c) a w) (hw:Region.wanted oi (yielded l.toArray a.tmps)=true) (hS:S w) (hy:∀ w,S w→(execOp a.eval oi).run P w = .ok (.value v) w)
  (h:wpAnyH P md l.toArray Q S fuel (listed.setIfInBounds i true) (a.put oi.dst v) w):wpAnyH P md l.toArray Q S (fuel + 1) listed a w :=
 wpAnyH_take (by simpa using hi) hs hf hr hQ (.inl ⟨hw,hy⟩) hS h
theorem tK {l:List Oper} (i:Nat) {oi:Oper} {v:Value} {fuel:Nat} {listed:Array Bool} {a:Act} {w:World} (hS:S w) (hy:∀ w,S w→(execOp a.eval oi).run P w = .ok (.value v) w)
    (h:wpAnyH P md l.toArray Q S fuel (listed.setIfInBounds i true) (a.put oi.dst v) w) (hi:l[i]? = some oi:=by exact rfl) (hs:Region.noSelect l.toArray=true:=by kernel_rfl) (hf:Region.free md l.toArray listed i=true:=by kernel_rfl) (hr:(Region.ready md l.toArray listed).contains i=true:=by kernel_rfl)
    (hQ:∀ c a w,Q (.panic c) (a.put oi.dst v) w→Q (.panic c) a w:=by exact fun _ _ _ h=>h) (hw:Region.wanted oi (yielded l.toArray a.tmps)=true:=by exact rfl):wpAnyH P md l.toArray Q S (fuel + 1) listed a w :=
  take_held i hi hs hf hr hQ hw hS hy h
/-- Number i, carried out where nothing else may come up. -/
theorem only_held {l:List Oper} (i:Nat) {oi:Oper} {fuel:Nat} {listed:Array Bool} {a:Act} {w:World} (hi:l[i]? = some oi)
  (hr:Region.ready md l.toArray listed=[i])
  (h:∀ K':Act→World→Prop,Shut (∀ a w,S w→wpAnyH P md l.toArray Q S fuel (listed.setIfInBounds i true) a w→K' a w)→if Region.wanted oi (yielded l.toArray a.tmps)=true then Oper.wp P oi a w K' Q else K' (a.put oi.dst undef) w) :
  wpAnyH P md l.toArray Q S (fuel + 1) listed a w :=
 wpAnyH_ready hr (by simp) (AllReadyH.cons (by simpa using hi) (fun K' hK=>h K' (fun a w h1 h2=>hK.out a w h1 fun _=>h2)) AllReadyH.nil)
/-- Two may come up. -/
theorem both_held {l:List Oper} (i j:Nat) {oi oj:Oper} {fuel:Nat} {listed:Array Bool} {a:Act} {w:World} (hi:l[i]? = some oi) (hj:l[j]? = some oj)
  (hr:Region.ready md l.toArray listed=[i,j])
  (h:∀ K':Act→World→Prop,Shut (∀ a w,S w→wpAnyH P md l.toArray Q S fuel (listed.setIfInBounds i true) a w→K' a w)→if Region.wanted oi (yielded l.toArray a.tmps)=true then Oper.wp P oi a w K' Q else K' (a.put oi.dst undef) w)
  (h2:∀ K':Act→World→Prop,Shut (∀ a w,S w→wpAnyH P md l.toArray Q S fuel (listed.setIfInBounds j true) a w→K' a w)→if Region.wanted oj (yielded l.toArray a.tmps)=true then Oper.wp P oj a w K' Q else K' (a.put oj.dst undef) w) :
  wpAnyH P md l.toArray Q S (fuel + 1) listed a w :=
 wpAnyH_ready hr (by simp) (AllReadyH.cons (by simpa using hi) (fun K' hK=>h K' (fun a w h1 h2=>hK.out a w h1 fun _=>h2)) (AllReadyH.cons (by simpa using hj) (fun K' hK=>h2 K' (fun a w h1 h2=>hK.out a w h1 fun _=>h2)) AllReadyH.nil))
theorem done_held {l:List Oper} {listed:Array Bool} {a:Act} {w:World} {fuel:Nat} (hr:Region.ready md l.toArray listed=[]) (h:Q .normal a w):wpAnyH P md l.toArray Q S fuel listed a w:=wpAnyH_done hr h _
end
end Go.Proofs.Ytjgnkhfgmpaljaa.P
