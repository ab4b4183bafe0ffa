/- Lemmas, readings of functions as plain Lean functions and contracts of functions of the program, for the claimed theorem; each one's conditions stand in its statement. -/
import Derived.Test.YtjgnkhfgmpaljaaQTD0
namespace Go.Proofs.YtjgnkhfgmpaljaaW.PrintWords
open Go.RowKit
namespace Kd
theorem reps_one {α:Type} {R:α→List Value→Prop} {size:Nat} {ps:List α} {cs:List Value} (h:Reps R size ps cs) (hs0:0 < size) (hR:∀ p c,R p c→∀ u ∈ c,u.oneCell'=true):∀ u ∈ cs,u.oneCell'=true:=by
  intro u hu
  obtain ⟨q,hq,rfl⟩:=List.mem_iff_getElem.1 hu
  have hql:q / size < ps.length:=by
    rw [Nat.div_lt_iff_lt_mul hs0,← h.1]
    exact hq
  refine hR _ _ (h.2 (q / size) _ (List.getElem?_eq_getElem hql)) _ ?_
  rw [List.mem_iff_getElem?]
  refine ⟨q % size,?_⟩
  rw [List.getElem?_take,if_pos (Nat.mod_lt _ hs0),List.getElem?_drop,Nat.mul_comm,Nat.div_add_mod,List.getElem?_eq_getElem hq]
/-- An array of n elements of kind d. -/
def arr {α:Type} (n:Nat) (d:Kd α) (hs:0 < d.sz):Kd (List α) where
  sz:=n * d.sz
  E:=d.E
  K:=fun w xs cs=>xs.length=n∧Reps (d.K w) d.sz xs cs
  M:=fun w base ok xs cs=>xs.length=n∧Reps (d.M w base ok) d.sz xs cs
  K_len:=fun h=>by rw [← h.1];exact h.2.1
  K_one:=fun h=>reps_one h.2 hs (fun _ _ hk=>d.K_one hk)
  K_below:=fun hb h=>⟨h.1,h.2.imp_ (fun _ _ hk=>d.K_below hb hk)⟩
  K_of_M:=fun h=>⟨h.1,h.2.imp_ (fun _ _ hk=>d.K_of_M hk)⟩
  M_mono:=fun hok h=>⟨h.1,h.2.imp_ (fun _ _ hk=>d.M_mono hok hk)⟩
  M_bound:=fun h=>⟨h.1,h.2.imp_ (fun _ _ hk=>d.M_bound hk)⟩
  M_move:=fun hm h=>⟨h.1,h.2.imp_ (fun _ _ hk=>d.M_move hm hk)⟩
  M_lower:=fun hb h=>⟨h.1,h.2.imp_ (fun _ _ hk=>d.M_lower hb hk)⟩
section
variable {α:Type} {n:Nat} {d:Kd α} {hs:0 < d.sz} {w:World} {base:Nat} {ok:Nat→Prop} {xs:List α} {cs:List Value}
end
section
variable {α:Type} {n:Nat} {enc:α→Value} {h1:∀ x,(enc x).oneCell'=true} {hs:0 < (scalar enc h1).sz} {w:World} {base:Nat} {ok:Nat→Prop} {xs:List α} {cs:List Value}
end
end Kd
end Go.Proofs.YtjgnkhfgmpaljaaW.PrintWords
namespace Go.Proofs.YtjgnkhfgmpaljaaW.PrintWords
/-- One cell an element. -/
theorem Reps.one {α:Type} {R:α→List Value→Prop} {ps:List α} {cs:List Value} {p:α} {v:Value} (hp:R p [v]) (h:Reps R 1 ps cs):Reps R 1 (p :: ps) (v :: cs):=by
  refine ⟨by simp [h.1],fun j q hq=>?_⟩
  cases j with
  | zero =>
    simp only [List.getElem?_cons_zero,Option.some.injEq] at hq
    subst hq
    simpa using hp
  | succ j =>
    simp only [List.getElem?_cons_succ] at hq
    have h1:=h.2 j q hq
    simpa [Nat.mul_one] using h1
/-- More cells an element: told apart by the cells' list. -/
theorem Reps.front {α:Type} {R:α→List Value→Prop} {size:Nat} {ps:List α} {cs c all:List Value} {p:α} (hp:R p c) (hc:c.length=size) (h:Reps R size ps cs) (ha:c ++ cs=all):Reps R size (p :: ps) all:=by
  subst ha
  refine ⟨by rw [List.length_append,hc,h.1,List.length_cons,Nat.succ_mul,Nat.add_comm],fun j q hq=>?_⟩
  cases j with
  | zero =>
    simp only [List.getElem?_cons_zero,Option.some.injEq] at hq
    subst hq
    rw [Nat.zero_mul,List.drop_zero,List.take_append_of_le_length (by omega),List.take_of_length_le (by omega)]
    exact hp
  | succ j =>
    simp only [List.getElem?_cons_succ] at hq
    have h1:=h.2 j q hq
    rw [Nat.succ_mul,List.drop_append,List.drop_of_length_le (by rw [hc];exact Nat.le_add_left _ _),List.nil_append,hc,Nat.add_sub_cancel]
    exact h1
theorem Reps.c8 {α:Type} {R:α→List Value→Prop} {ps:List α} {cs:List Value} {p:α} {va vb vc vd ve vf vg vh:Value} (hp:R p [va,vb,vc,vd,ve,vf,vg,vh]) (h:Reps R 8 ps cs):Reps R 8 (p :: ps) (va :: vb :: vc :: vd :: ve :: vf :: vg :: vh :: cs):=Reps.front hp rfl h rfl
theorem Reps.c9 {α:Type} {R:α→List Value→Prop} {ps:List α} {cs:List Value} {p:α} {va vb vc vd ve vf vg vh vi:Value} (hp:R p [va,vb,vc,vd,ve,vf,vg,vh,vi]) (h:Reps R 9 ps cs):Reps R 9 (p :: ps) (va :: vb :: vc :: vd :: ve :: vf :: vg :: vh :: vi :: cs):=Reps.front hp rfl h rfl
theorem Reps.c10 {α:Type} {R:α→List Value→Prop} {ps:List α} {cs:List Value} {p:α} {va vb vc vd ve vf vg vh vi vj:Value} (hp:R p [va,vb,vc,vd,ve,vf,vg,vh,vi,vj]) (h:Reps R 10 ps cs):Reps R 10 (p :: ps) (va :: vb :: vc :: vd :: ve :: vf :: vg :: vh :: vi :: vj :: cs):=Reps.front hp rfl h rfl
end Go.Proofs.YtjgnkhfgmpaljaaW.PrintWords
namespace Go.Proofs.YtjgnkhfgmpaljaaW.PrintWords
open Go.RowKit
section
variable {P:Program} {ops:Array Oper} {rest:List Oper} {o:Oper} {a:Act} {Q:Exit→Act→World→Prop} {W:World}
/-- The gate takes the guard off (hw: 'by rfl', 'by kernel_rfl': the guard's slot holds what is wanted). -/
theorem gate_guard (hw:Region.wanted o (yielded ops a.tmps)=true) (h:wpList P ops Q ({ o with guard:=none } :: rest) a W):wpList P ops Q (o :: rest) a W:=by
  have h1:Region.wanted { o with guard:=none } (yielded ops a.tmps)=true:=rfl
  unfold wpList at h ⊢
  rw [if_pos h1] at h
  rw [if_pos hw]
  exact h
end
end Go.Proofs.YtjgnkhfgmpaljaaW.PrintWords
