/- Lemmas, readings of functions as plain Lean functions and contracts of functions of the program, for the claimed theorem; each one's conditions stand in its statement. -/
import Derived.Test.YtjgnkhfgmpaljaaQTD22
import Derived.Test.YtjgnkhfgmpaljaaQTD23
import Derived.Test.YtjgnkhfgmpaljaaQTD7
import Derived.Test.YtjgnkhfgmpaljaaQTD1
import Derived.Test.YtjgnkhfgmpaljaaQTD9
namespace Go.Proofs.Ytjgnkhfgmpaljaa.P
open Go.RowKit Go.Proofs.YtjgnkhfgmpaljaaW.PrintWords Go.Proofs.YtjgnkhfgmpaljaaW.PrintLast Go.Proofs.YtjgnkhfgmpaljaaW.PrintMore Go.Proofs.Ytjgnkhfgmpaljaa.M
open Go.Proofs.Ytjgnkhfgmpaljaa
set_option linter.unusedVariables false
set_option linter.unusedSimpArgs false
theorem flats_pos:∀ {F:List S53} {la:Int},0≤la→flatsB la F=true→∀ f ∈ F,la < f.f0∧f.f0≤64∧1≤f.f1∧f.f1≤10
 | f :: F,la,h0,h,g,hg=>by
  unfold flatsB flatB at h
  simp only [Bool.and_eq_true,Bool.not_eq_true',Bool.or_eq_false_iff,decide_eq_false_iff_not] at h
  obtain ⟨⟨⟨⟨h1,h2⟩,h3⟩,h4⟩,h5⟩:=h
  rcases List.mem_cons.1 hg with rfl|hg
  ·
   omega
  ·
   have:=flats_pos (by omega) h5 g hg;omega
theorem rooms_mem {F:List S53} {j:Int} (h:((roomsF F j).getD 0 == 0)=false):∃ f ∈ F,f.f0=j:=by
 unfold roomsF at h
 cases hf:F.find? (fun f=>decide (f.f0=j)) with
 | none=>rw [hf] at h;simp at h
 | some f=>exact ⟨f,List.mem_of_find?_eq_some hf,by simpa using List.find?_some hf⟩
theorem mem_rooms {F:List S53} (hF:flatsB 0 F=true) {j:Int} (h:∃ f ∈ F,f.f0=j):((roomsF F j).getD 0 == 0)=false:=by
 obtain ⟨f,hf,e⟩:=h
 unfold roomsF
 cases hx:F.find? (fun f=>decide (f.f0=j)) with
 | none=>rw [List.find?_eq_none] at hx;exact absurd e (by simpa using hx f hf)
 | some g =>
  have:=flats_pos (Int.le_refl _) hF g (List.mem_of_find?_eq_some hx)
  show (g.f1 == 0)=false
  simp;omega
theorem wants_ok {ro:Int→Option Int}:∀ {l:List Int} {sn:Int→Option Bool},wantsB ro sn l=true ↔ (∀ f ∈ l,((ro f).getD 0 == 0)=false)∧(∀ f ∈ l,(sn f).getD false=false)∧l.Nodup
 | [],sn=>by simp [wantsB]
 | f :: l,sn=>by
  have ih:=wants_ok (ro:=ro) (l:=l) (sn:=fun j=>if j=f then some true else sn j)
  unfold wantsB
  rw [Bool.and_eq_true,ih]
  simp only [Bool.not_eq_true',Bool.or_eq_false_iff,List.mem_cons,List.nodup_cons]
  constructor
  ·
   rintro ⟨⟨h1,h2⟩,h3,h4,h5⟩
   refine ⟨fun g hg=>?_,fun g hg=>?_,fun hm=>?_,h5⟩
   ·
    rcases hg with rfl|hg
    ·
     exact h1
    ·
     exact h3 g hg
   ·
    rcases hg with rfl|hg
    ·
     exact h2
    ·
     have:=h4 g hg
     split at this
     ·
      cases this
     ·
      exact this
   ·
    have:=h4 f hm
    rw [if_pos rfl] at this;cases this
  ·
   rintro ⟨h1,h2,h3,h4⟩
   refine ⟨⟨h1 f (.inl rfl),h2 f (.inl rfl)⟩,fun g hg=>h1 g (.inr hg),fun g hg=>?_,h4⟩
   rw [if_neg (fun e=>h3 (by rw [← e];exact hg))]
   exact h2 g (.inr hg)
theorem parties_ok {ro:Int→Option Int}:∀ {l:List S41} {tk:Int→Option Bool} {la:Int},partiesB ro tk la l=true →
  (∀ p ∈ l,la < p.f0∧p.f0≤64∧wantsB ro (fun _=>none) p.f2=true∧(p.f1≠0→((ro p.f1).getD 0 == 0)=false∧(tk p.f1).getD false=false))∧l.Pairwise (fun p q=>p.f0 < q.f0∧(q.f1≠0→p.f1≠q.f1))
 | [],tk,la,_=>⟨fun p hp=>by (cases hp),.nil⟩
 | p :: l,tk,la,h=>by
  unfold partiesB fitsB headB at h
  simp only [Bool.and_eq_true,Bool.not_eq_true',Bool.or_eq_false_iff,decide_eq_false_iff_not] at h
  obtain ⟨⟨⟨⟨h1,h2⟩,h3⟩,h4⟩,h5⟩:=h
  obtain ⟨i1,i2⟩:=parties_ok h5
  have hself:p.f1≠0→((ro p.f1).getD 0 == 0)=false∧(tk p.f1).getD false=false:=fun hne=>by
   rw [Bool.and_eq_false_iff] at h3
   rcases h3 with h3|h3
   ·
    exact absurd (by simpa using h3) hne
   ·
    exact Bool.or_eq_false_iff.1 h3
  refine ⟨fun q hq=>?_,List.pairwise_cons.2 ⟨fun q hq=>?_,i2⟩⟩
  ·
   rcases List.mem_cons.1 hq with rfl|hq
   ·
    exact ⟨by omega,by omega,h4,hself⟩
   ·
    obtain ⟨j1,j2,j3,j4⟩:=i1 q hq
    refine ⟨by omega,j2,j3,fun hne=>⟨(j4 hne).1,?_⟩⟩
    have:=(j4 hne).2
    unfold putT at this
    split at this
    ·
     cases this
    ·
     exact this
  ·
   obtain ⟨j1,j2,j3,j4⟩:=i1 q hq
   refine ⟨j1,fun hne e=>?_⟩
   have:=(j4 hne).2
   unfold putT at this
   rw [if_pos e.symm] at this;cases this
theorem ids_eq:∀ {l:List Int} {k:Nat},idsB k l=true→l=(List.range' k l.length).map fun (i:Nat)=>(i:Int)
 | [],k,_=>rfl
 | a :: l,k,h=>by
  unfold idsB at h
  simp only [Bool.and_eq_true,Bool.not_eq_true',bne_eq_false_iff_eq] at h
  have ih:=ids_eq h.2
  rw [List.length_cons,List.range'_succ,List.map_cons,← ih,← h.1]
theorem order_ok {ord:List Int} {n:Nat} (h:orderB ord (n:Int)=true):ord.length=n∧(∀ x ∈ ord,0≤x∧x < n)∧∀ p:Nat,p < n→(p:Int) ∈ ord:=by
 unfold orderB at h
 rw [Bool.and_eq_true] at h
 have hl:ord.length=n:=by have:=h.2;simp at this;omega
 have he:=ids_eq h.1
 rw [sortL_len,hl] at he
 have hm:∀ x,x ∈ ord ↔ ∃ i,i < n∧(i:Int)=x:=fun x=>by
  have hp:(sortL ord).Perm ord:=List.mergeSort_perm _ _
  rw [← hp.mem_iff,he]
  simp
 refine ⟨hl,fun x hx=>?_,fun p hp=>(hm p).2 ⟨p,hp,rfl⟩⟩
 obtain ⟨i,hi,rfl⟩:=(hm x).1 hx
 omega
theorem rd41P {P:List S41} {p:Nat} (hp:p < P.length):rd_T41 P (p:Int)=P[p]:=rd41_get hp
theorem fine_of {F:List S53} {P:List S41} {ord:List Int} (h:okB F P ord=true) (hn:P.length≤64) (hok:∀ x ∈ P,x.f2.length≤64∧okI x.f1∧∀ f ∈ x.f2,okI f):Fine P ord:=by
 unfold okB validG at h
 rw [Bool.and_eq_true,Bool.and_eq_true] at h
 obtain ⟨⟨hF,hP⟩,ho⟩:=h
 obtain ⟨h1,h2⟩:=parties_ok hP
 obtain ⟨h3,h4,h5⟩:=order_ok ho
 have hw:∀ p,p < P.length→wantsB (roomsF F) (fun _=>none) (wantsP P p)=true:=fun p hp=>(h1 _ (rd41_mem hp)).2.2.1
 refine ⟨hn,fun p q hp hq e h0=>?_,fun p hp hm=>?_,fun p hp=>(wants_ok.1 (hw p hp)).2.2,h4,h5,h3,hok⟩
 ·
  have hpw:=List.pairwise_iff_getElem.1 h2
  unfold ownP at e h0
  rcases Nat.lt_trichotomy p q with hlt|heq|hgt
  ·
   have:=(hpw p q hp hq hlt).2
   rw [← rd41P hp,← rd41P hq] at this
   exact absurd e (this (by rw [← e];exact h0))
  ·
   exact heq
  ·
   have:=(hpw q p hq hp hgt).2
   rw [← rd41P hp,← rd41P hq] at this
   exact absurd e.symm (this h0)
 ·
  obtain ⟨f,hf,e⟩:=rooms_mem ((wants_ok.1 (hw p hp)).1 0 hm)
  have:=flats_pos (Int.le_refl _) hF f hf
  omega
def okIb (x:Int):Bool:=decide (-9223372036854775808≤x) && decide (x≤9223372036854775807)
theorem okIb_iff {x:Int}:okIb x=true ↔ okI x:=by unfold okIb okI;simp
/-- The arguments that the contract of Solve speaks of. -/
def okIn (F:List S53) (P:List S41) (ord:List Int):Bool :=
 decide (P.length≤64) && decide (ord.length≤1000) && F.all (fun x=>okIb x.f0 && okIb x.f1) && P.all (fun x=>decide (x.f2.length≤64) && okIb x.f1 && x.f2.all okIb)
def solveG (F:List S53) (P:List S41) (ord:List Int):List S39 × List S47 × Int :=
 if okB F P ord=true then (outM P (finalG P ord).tos P.length,(finalG P ord).rg,0) else ([],[],1)
def trade_Solve.f (F:List S53) (P:List S41) (ord:List Int):Option (List S39 × List S47 × Int):=if okIn F P ord=true then some (solveG F P ord) else none
theorem okIn_iff {F:List S53} {P:List S41} {ord:List Int}:okIn F P ord=true ↔ P.length≤64∧ord.length≤1000∧(∀ x ∈ F,okI x.f0∧okI x.f1)∧∀ x ∈ P,x.f2.length≤64∧okI x.f1∧∀ f ∈ x.f2,okI f:=by
 unfold okIn
 simp only [Bool.and_eq_true,decide_eq_true_eq,List.all_eq_true,okIb_iff,and_assoc]
theorem trade_Solve.calls (A0_0:Option Addr) (c0_0:Nat) (l0_0:List S53) (A0_1:Option Addr) (c0_1:Nat) (l0_1:List S41) (A1:Option Addr) (c1:Nat) (l1:List Int) (r0:List S39) (r1:List S47) (r2:Int) (w:World)
  (hr0_0:Kd.C k53 w A0_0 l0_0.length l0_0) (hc0_0:l0_0.length≤c0_0) (hr0_1:Kd.C k41 w A0_1 l0_1.length l0_1) (hc0_1:l0_1.length≤c0_1) (hr1:(Kd.int .i64).C w A1 l1.length l1) (hc1:l1.length≤c1) (h:trade_Solve.f l0_0 l0_1 l1=some (r0,r1,r2)) :
  Calls Try.prog 18 #[.agg #[.slice A0_0 l0_0.length c0_0,.slice A0_1 l0_1.length c0_1],.slice A1 l1.length c1] w (SolvePost w r0 r1 r2):=by
 unfold trade_Solve.f at h
 split at h
 ·
  rename_i hok
  obtain ⟨h1,h2,h3,h4⟩:=okIn_iff.1 hok
  have h:=Option.some.inj h
  unfold solveG at h
  by_cases hb:okB l0_0 l0_1 l1=true
  ·
   rw [if_pos hb] at h
   have hF:=fine_of hb h1 h4
   obtain ⟨hrun,hfin⟩:=final_bind hF
   cases h
   exact solve_yes A0_0 A0_1 A1 c0_0 c0_1 c1 l0_0 l0_1 l1 w hr0_0 hr0_1 hr1 h3 (fun p hp=>(h4 p hp).2) h2 h1 hc0_1 hc1 hb (bd_ok hF (start_bind hF)) hrun (bd_ok hF hfin)
  ·
   rw [if_neg hb] at h
   cases h
   exact solve_no A0_0 A0_1 A1 c0_0 c0_1 c1 l0_0 l0_1 l1 w hr0_0 hr0_1 hr1 h3 (fun p hp=>(h4 p hp).2) h2 (by simpa using hb)
 ·
  cases h
end Go.Proofs.Ytjgnkhfgmpaljaa.P
namespace Go.Proofs.Ytjgnkhfgmpaljaa.P
open Go.RowKit Go.Proofs.YtjgnkhfgmpaljaaW.PrintWords Go.Proofs.YtjgnkhfgmpaljaaW.PrintLast Go.Proofs.YtjgnkhfgmpaljaaW.PrintMore
attribute [local go_sem] max2_int min2_int max_two min_two max_three min_three max_four min_four   -- for this text's walks alone
set_option linter.unusedVariables false
set_option linter.unusedSimpArgs false

mutual
def cohousinglaw24_solved.j0:Nat→List (S39)→Bool→Option (List Int × Bool)
 | 0,_,_=>none
 | k + 1,x6,x28=>if x28=true then (some (([]:List Int),false)) else (cohousinglaw24_solved.l0 k ([]:List Int) x6 (x6.length:Int) 0)
def cohousinglaw24_solved.l0:Nat→List Int→List (S39)→Int→Int→Option (List Int × Bool)
 | 0,_,_,_,_=>none
 | k + 1,x9,x29,x30,x31=>if x31 < x30 then (if 0≤x31 then (if x31 < (x29.length:Int) then (if x9.length < 17592186044416 then (cohousinglaw24_solved.l0 k (x9 ++ [(rd_T39 x29 x31).f2]) x29 x30 (wrap64 (x31 + 1))) else (none)) else (none)) else (none)) else (some (x9,true))
end
def cohousinglaw24_solved.f (k:Nat) (l0_0:List (S53)) (l0_1:List (S41)) (l1:List Int):Option (List Int × Bool):=(trade_Solve.f l0_0 l0_1 l1).bind fun bt327=>(if bt327.2.2=0 then (cohousinglaw24_solved.j0 k bt327.1 ((bt327.1.length:Int) != (l0_1.length:Int))) else (cohousinglaw24_solved.j0 k bt327.1 true))
theorem cohousinglaw24_solved.mono_l:∀ k,(∀ y0 y1,LeO (cohousinglaw24_solved.j0 k y0 y1) (cohousinglaw24_solved.j0 (k + 1) y0 y1))∧(∀ y0 y1 y2 y3,LeO (cohousinglaw24_solved.l0 k y0 y1 y2 y3) (cohousinglaw24_solved.l0 (k + 1) y0 y1 y2 y3))
 | 0=>⟨fun _ _ r h=>by simp [cohousinglaw24_solved.j0] at h,fun _ _ _ _ r h=>by simp [cohousinglaw24_solved.l0] at h⟩
 | k + 1=>by
  obtain ⟨ih0,ih1⟩:=cohousinglaw24_solved.mono_l k
  refine ⟨?_,?_⟩
  ·
   intro y0 y1
   unfold cohousinglaw24_solved.j0
   repeat' first
   | (with_reducible exact ih0 _ _)
   | (with_reducible exact ih1 _ _ _ _)
   | (with_reducible exact LeO.refl _)
   | (with_reducible exact LeO.none _)
   | (with_reducible refine LeO.ite ?_ ?_)
   | (with_reducible refine LeO.bind ?_ (fun _=>?_))
   | exact ih0 _ _
   | exact ih1 _ _ _ _
   | exact LeO.none _
   | refine LeO.ite ?_ ?_
   | refine LeO.bind ?_ (fun _=>?_)
  ·
   intro y0 y1 y2 y3
   unfold cohousinglaw24_solved.l0
   repeat' first
   | (with_reducible exact ih0 _ _)
   | (with_reducible exact ih1 _ _ _ _)
   | (with_reducible exact LeO.refl _)
   | (with_reducible exact LeO.none _)
   | (with_reducible refine LeO.ite ?_ ?_)
   | (with_reducible refine LeO.bind ?_ (fun _=>?_))
   | exact ih0 _ _
   | exact ih1 _ _ _ _
   | exact LeO.none _
   | refine LeO.ite ?_ ?_
   | refine LeO.bind ?_ (fun _=>?_)
theorem cohousinglaw24_solved.mono:∀ a0 a1 a2 k,LeO (cohousinglaw24_solved.f k a0 a1 a2) (cohousinglaw24_solved.f (k + 1) a0 a1 a2):=by
 intro a0 a1 a2 k
 obtain ⟨ih0,ih1⟩:=cohousinglaw24_solved.mono_l k
 unfold cohousinglaw24_solved.f
 repeat' first
   | (with_reducible exact ih0 _ _)
   | (with_reducible exact ih1 _ _ _ _)
   | (with_reducible exact LeO.refl _)
   | (with_reducible exact LeO.none _)
   | (with_reducible refine LeO.ite ?_ ?_)
   | (with_reducible refine LeO.bind ?_ (fun _=>?_))
   | exact ih0 _ _
   | exact ih1 _ _ _ _
   | exact LeO.none _
   | refine LeO.ite ?_ ?_
   | refine LeO.bind ?_ (fun _=>?_)
end Go.Proofs.Ytjgnkhfgmpaljaa.P
namespace Go.Proofs.Ytjgnkhfgmpaljaa.P
open Go.RowKit Go.Proofs.YtjgnkhfgmpaljaaW.PrintWords Go.Proofs.YtjgnkhfgmpaljaaW.PrintLast Go.Proofs.YtjgnkhfgmpaljaaW.PrintMore Go.Proofs.Ytjgnkhfgmpaljaa.M
open Go.Proofs.Ytjgnkhfgmpaljaa
set_option linter.unusedVariables false
set_option linter.unusedSimpArgs false
theorem dropc {l:List Int} {i:Nat} (h:i < l.length):l.drop i=rd l (i:Int) :: l.drop (i + 1):=by rw [List.drop_eq_getElem_cons h,rd_get h]
theorem dropc41 {l:List S41} {i:Nat} (h:i < l.length):l.drop i=rd_T41 l (i:Int) :: l.drop (i + 1):=by rw [List.drop_eq_getElem_cons h,rd41_get h]
theorem dropc53 {l:List S53} {i:Nat} (h:i < l.length):l.drop i=rd_T53 l (i:Int) :: l.drop (i + 1):=by rw [List.drop_eq_getElem_cons h,rd53_get h]
/-- The index of a number, or -1. -/
def inZ (x:Int):Nat→List Int→Int
  | _,[]=>-1
  | i,a :: l=>if a=x then (i:Int) else inZ x (i + 1) l
theorem in_ev (l:List Int) (x:Int) (hl:l.length≤1000000):Ev (fun k=>cohousingref23_In.f k l x) (inZ x 0 l):=by
  have h:∀ d i:Nat,d=l.length - i→i≤l.length→Ev (fun k=>cohousingref23_In.l0 k l x (i:Int)) (inZ x i (l.drop i)):=by
    intro d
    induction d with
    | zero =>
      intro i hd hi
      obtain rfl:i=l.length:=by omega
      rw [List.drop_length]
      show Ev _ (-1)
      exact Ev.step (fun k=>by rw [cohousingref23_In.l0]) (evNeg (by omega) (Ev.now _))
    | succ d ih =>
      intro i hd hi
      have hlt:i < l.length:=by omega
      have h2:=ih (i + 1) (by omega) (by omega)
      rw [dropc hlt]
      by_cases hx:rd l (i:Int)=x
      · have e:inZ x i (rd l (i:Int) :: l.drop (i + 1))=(i:Int):=by unfold inZ;rw [if_pos hx]
        rw [e]
        exact Ev.step (fun k=>by rw [cohousingref23_In.l0]) (evPos (by omega) (evPos (by omega) (evPos hx (Ev.now _))))
      · have e:inZ x i (rd l (i:Int) :: l.drop (i + 1))=inZ x (i + 1) (l.drop (i + 1)):=by rw [inZ,if_neg hx]
        rw [e]
        refine Ev.step (fun k=>by rw [cohousingref23_In.l0]) (evPos (by omega) (evPos (by omega) (evNeg hx ?_)))
        rw [wrap_succ hlt (by omega)];exact h2
  exact h l.length 0 rfl (Nat.zero_le _)
theorem ranking_ev (id own:Int) (l:List Int) (hl:l.length≤1000000):Ev (fun k=>cohousingref23_Ranking.f k id own l) (rankL own l):=by
  have h:∀ d i:Nat,d=l.length - i→i≤l.length→∀ o:List Int,o.length=i→Ev (fun k=>cohousingref23_Ranking.l0 k o (i:Int) id own l) (o ++ rankL own (l.drop i)):=by
    intro d
    induction d with
    | zero =>
      intro i hd hi o ho
      obtain rfl:i=l.length:=by omega
      rw [List.drop_length]
      show Ev _ (o ++ [own])
      exact Ev.step (fun k=>by rw [cohousingref23_Ranking.l0]) (evNeg (by omega) (evPos (by omega) (Ev.now _)))
    | succ d ih =>
      intro i hd hi o ho
      have hlt:i < l.length:=by omega
      have h2:=ih (i + 1) (by omega) (by omega) (o ++ [rd l (i:Int)]) (by simp [ho])
      rw [dropc hlt]
      refine Ev.step (fun k=>by rw [cohousingref23_Ranking.l0]) (evPos (by omega) (evPos (by omega) (evPos (by omega) (evSome rfl ?_))))
      by_cases hx:rd l (i:Int)=own
      · have e:rankL own (rd l (i:Int) :: l.drop (i + 1))=[rd l (i:Int)]:=by
          unfold rankL;rw [List.takeWhile_cons,if_neg (by simpa using hx),List.nil_append,hx]
        rw [e];exact evPos hx (Ev.now _)
      · have e:rankL own (rd l (i:Int) :: l.drop (i + 1))=rd l (i:Int) :: rankL own (l.drop (i + 1)):=by
          unfold rankL;rw [List.takeWhile_cons,if_pos (by simpa using hx),List.cons_append]
        rw [e]
        refine evNeg hx ?_
        rw [wrap_succ hlt (by omega)]
        rw [List.append_assoc] at h2;exact h2
  exact h l.length 0 rfl (Nat.zero_le _) [] rfl
def hasR (F:List S53) (x:Int):Bool:=F.any fun f=>decide (f.f0=x)
theorem has_ev (F:List S53) (x:Int) (hl:F.length≤1000000):Ev (fun k=>cohousingref23_Has.f k F x) (hasR F x):=by
  have h:∀ d i:Nat,d=F.length - i→i≤F.length→Ev (fun k=>cohousingref23_Has.l0 k F x (i:Int)) (hasR (F.drop i) x):=by
    intro d
    induction d with
    | zero =>
      intro i hd hi
      obtain rfl:i=F.length:=by omega
      rw [List.drop_length]
      show Ev _ false
      exact Ev.step (fun k=>by rw [cohousingref23_Has.l0]) (evNeg (by omega) (Ev.now _))
    | succ d ih =>
      intro i hd hi
      have hlt:i < F.length:=by omega
      have h2:=ih (i + 1) (by omega) (by omega)
      rw [dropc53 hlt]
      by_cases hx:(rd_T53 F (i:Int)).f0=x
      · have e:hasR (rd_T53 F (i:Int) :: F.drop (i + 1)) x=true:=by unfold hasR;simp [hx]
        rw [e]
        exact Ev.step (fun k=>by rw [cohousingref23_Has.l0]) (evPos (by omega) (evPos (by omega) (evPos hx (Ev.now _))))
      · have e:hasR (rd_T53 F (i:Int) :: F.drop (i + 1)) x=hasR (F.drop (i + 1)) x:=by unfold hasR;simp [hx]
        rw [e]
        refine Ev.step (fun k=>by rw [cohousingref23_Has.l0]) (evPos (by omega) (evPos (by omega) (evNeg hx ?_)))
        rw [wrap_succ hlt (by omega)];exact h2
  exact h F.length 0 rfl (Nat.zero_le _)
theorem flats_ev (F:List S53) (hl:F.length≤64):Ev (fun k=>cohousingref23_Flats.f k F) (flatsB 0 F):=by
  refine evNeg (by omega) ?_
  have h:∀ d i:Nat,d=F.length - i→i≤F.length→0≤lastId F i→Ev (fun k=>cohousingref23_Flats.l0 k F (i:Int)) (flatsB (lastId F i) (F.drop i)):=by
    intro d
    induction d with
    | zero =>
      intro i hd hi h0
      obtain rfl:i=F.length:=by omega
      rw [List.drop_length]
      show Ev _ true
      exact Ev.step (fun k=>by rw [cohousingref23_Flats.l0]) (evNeg (by omega) (Ev.now _))
    | succ d ih =>
      intro i hd hi h0
      have hlt:i < F.length:=by omega
      have h2:=ih (i + 1) (by omega) (by omega)
      rw [flatsB_step hlt]
      have hid:lastId F (i + 1)=(rd_T53 F (i:Int)).f0:=rfl
      rw [hid] at h2
      have bad:∀ {b:Bool},(flatB (lastId F i) (rd_T53 F (i:Int))=false)→(flatB (lastId F i) (rd_T53 F (i:Int)) && b)=false:=fun h=>by rw [h];rfl
      have no:((rd_T53 F (i:Int)).f0≤lastId F i ∨ (rd_T53 F (i:Int)).f0 > 64 ∨ (rd_T53 F (i:Int)).f1 < 1 ∨ (rd_T53 F (i:Int)).f1 > 10)→flatB (lastId F i) (rd_T53 F (i:Int))=false:=fun h=>by
        unfold flatB
        rw [Bool.not_eq_false']
        rcases h with h|h|h|h <;> simp [h]
      have yes:¬ ((rd_T53 F (i:Int)).f0≤lastId F i)→¬ ((rd_T53 F (i:Int)).f0 > 64)→¬ ((rd_T53 F (i:Int)).f1 < 1)→¬ ((rd_T53 F (i:Int)).f1 > 10)→flatB (lastId F i) (rd_T53 F (i:Int))=true:=fun h1 h2 h3 h4=>by
        unfold flatB
        rw [decide_eq_false h1,decide_eq_false h2,decide_eq_false h3,decide_eq_false h4];rfl
      have rest:¬ ((rd_T53 F (i:Int)).f0≤lastId F i)→¬ ((rd_T53 F (i:Int)).f0 > 64)→Ev (fun k=>if ((rd_T53 F (i:Int)).f1) < 1 then (some false) else (if ((rd_T53 F (i:Int)).f1) > 10 then (some false) else (cohousingref23_Flats.l0 k F (wrap64 ((i:Int) + 1))))) (flatB (lastId F i) (rd_T53 F (i:Int)) && flatsB (rd_T53 F (i:Int)).f0 (F.drop (i + 1))):=fun h1 h3=>by
        refine evIte (fun h4=>?_) (fun h4=>evIte (fun h5=>?_) (fun h5=>?_))
        · exact evEq (Ev.now _) (bad (no (.inr (.inr (.inl h4))))).symm
        · exact evEq (Ev.now _) (bad (no (.inr (.inr (.inr h5))))).symm
        · rw [wrap_succ hlt (by omega),yes h1 h3 h4 h5,Bool.true_and]
          exact h2 (by omega)
      refine Ev.step (fun k=>by rw [cohousingref23_Flats.l0]) (evPos (by omega) (evPos (by omega) (evIte (fun h1=>evEq (Ev.now _) (bad (no (.inl (by omega)))).symm) (fun h1=>evIte (fun h3=>evEq (Ev.now _) (bad (no (.inr (.inl h3)))).symm) (fun h3=>?_)))))
      cases i with
      | zero =>
        refine evNeg (by omega) (rest ?_ h3)
        show ¬ ((rd_T53 F ((0:Nat):Int)).f0≤0)
        omega
      | succ i =>
        have hw:wrap64 (((i + 1:Nat):Int) - 1)=(i:Int):=by rw [Go.IntWalk.wrap64_in _ (by omega)];omega
        rw [hw]
        refine evPos (by omega) (evPos (by omega) (evPos (by omega) (evIte (fun h4=>evEq (Ev.now _) (bad (no (.inl h4))).symm) (fun h4=>rest h4 h3))))
  exact h F.length 0 rfl (Nat.zero_le _) (Int.le_refl _)
end Go.Proofs.Ytjgnkhfgmpaljaa.P
namespace Go.Proofs.Ytjgnkhfgmpaljaa.P
open Go.RowKit Go.Proofs.YtjgnkhfgmpaljaaW.PrintWords Go.Proofs.YtjgnkhfgmpaljaaW.PrintLast Go.Proofs.YtjgnkhfgmpaljaaW.PrintMore Go.Proofs.Ytjgnkhfgmpaljaa.M
open Go.Proofs.Ytjgnkhfgmpaljaa
set_option linter.unusedVariables false
set_option linter.unusedSimpArgs false
def w2R (F:List S53) (ws:List Int):Nat→List Int→Bool
  | _,[]=>true
  | j,x :: l=>hasR F x && (decide (inZ x 0 ws=(j:Int)) && w2R F ws (j + 1) l)
theorem inZ_first {x:Int}:∀ (l:List Int) (k m:Nat),l[m]? = some x→(inZ x k l=((k + m:Nat):Int) ↔ x ∉ l.take m)
  | [],k,m,h=>by simp at h
  | a :: l,k,0,h=>by
    have:a=x:=by simpa using h
    unfold inZ;simp [this]
  | a :: l,k,m + 1,h=>by
    have ih:=inZ_first l (k + 1) m (by simpa using h)
    unfold inZ
    by_cases ha:a=x
    · rw [if_pos ha]
      constructor
      · intro e;omega
      · intro hn;exact absurd (by rw [List.take_succ_cons,ha];exact List.mem_cons_self) hn
    · rw [if_neg ha,show ((k + (m + 1):Nat):Int)=((k + 1 + m:Nat):Int) by omega,ih,List.take_succ_cons,List.mem_cons]
      constructor
      · intro h1 h2;exact h2.elim (fun e=>ha e.symm) h1
      · intro h1 h2;exact h1 (.inr h2)
theorem w2R_iff (F:List S53) (ws:List Int):∀ d j:Nat,d=ws.length - j→j≤ws.length→(w2R F ws j (ws.drop j)=true ↔ ∀ m,j≤m→∀ h:m < ws.length,hasR F ws[m]=true∧ws[m] ∉ ws.take m):=by
  intro d
  induction d with
  | zero =>
    intro j hd hj
    obtain rfl:j=ws.length:=by omega
    rw [List.drop_length]
    exact ⟨fun _ m h1 h2=>by omega,fun _=>rfl⟩
  | succ d ih =>
    intro j hd hj
    have hlt:j < ws.length:=by omega
    have h2:=ih (j + 1) (by omega) (by omega)
    rw [List.drop_eq_getElem_cons hlt]
    unfold w2R
    rw [Bool.and_eq_true,Bool.and_eq_true,decide_eq_true_eq,h2]
    have hf:=inZ_first ws 0 j (List.getElem?_eq_getElem hlt)
    rw [Nat.zero_add] at hf
    rw [hf]
    constructor
    · rintro ⟨h3,h4,h5⟩ m h6 h7
      by_cases e:m=j
      · subst e;exact ⟨h3,h4⟩
      · exact h5 m (by omega) h7
    · intro h3
      exact ⟨(h3 j (Nat.le_refl _) hlt).1,(h3 j (Nat.le_refl _) hlt).2,fun m h4 h5=>h3 m (by omega) h5⟩
theorem nodup_iff_take (ws:List Int):ws.Nodup ↔ ∀ m,∀ h:m < ws.length,ws[m] ∉ ws.take m:=by
  unfold List.Nodup
  rw [List.pairwise_iff_getElem]
  constructor
  · intro h m hm hin
    obtain ⟨i,hi,e⟩:=List.getElem_of_mem hin
    rw [List.length_take] at hi
    rw [List.getElem_take] at e
    exact h i m (by omega) hm (by omega) e
  · intro h i j hi hj hlt e
    refine h j hj ?_
    rw [← e]
    exact List.mem_take_iff_getElem.2 ⟨i,by omega,rfl⟩
theorem has_rooms {F:List S53} (hF:flatsB 0 F=true) (x:Int):hasR F x = !((roomsF F x).getD 0 == 0):=by
  have h1:hasR F x=true ↔ ∃ f ∈ F,f.f0=x:=by unfold hasR;simp [List.any_eq_true]
  cases hb:((roomsF F x).getD 0 == 0) with
  | false=>exact h1.2 (rooms_mem hb)
  | true =>
    cases hx:hasR F x with
    | false=>rfl
    | true=>rw [mem_rooms hF (h1.1 hx)] at hb;cases hb
theorem w2R_wants {F:List S53} (hF:flatsB 0 F=true) (ws:List Int):w2R F ws 0 ws=wantsB (roomsF F) (fun _=>none) ws:=by
  have h1:=w2R_iff F ws ws.length 0 (by omega) (Nat.zero_le _)
  rw [List.drop_zero] at h1
  refine Bool.eq_iff_iff.2 ?_
  rw [h1,wants_ok,nodup_iff_take]
  constructor
  · intro h
    refine ⟨fun f hf=>?_,fun f hf=>rfl,fun m hm=>(h m (Nat.zero_le _) hm).2⟩
    obtain ⟨i,hi,rfl⟩:=List.getElem_of_mem hf
    have:=(h i (Nat.zero_le _) hi).1
    rw [has_rooms hF] at this
    simpa using this
  · rintro ⟨h2,_,h3⟩ m _ hm
    refine ⟨?_,h3 m hm⟩
    rw [has_rooms hF,h2 _ (List.getElem_mem hm)];rfl
theorem l2_ev {F:List S53} {P:List S41} {i:Nat} {id own:Int} {ws:List Int} {r:Bool} (hF:F.length≤1000000) (hw:ws.length≤1000000) (hi:i < 1000000) (hr:Ev (fun k=>cohousingref23_Valid.l0 k ((i + 1:Nat):Int) F P) r) :
    ∀ d j:Nat,d=ws.length - j→j≤ws.length→Ev (fun k=>cohousingref23_Valid.l2 k (i:Int) (j:Int) F P id own ws) (w2R F ws j (ws.drop j) && r):=by
  intro d
  induction d with
  | zero =>
    intro j hd hj
    obtain rfl:j=ws.length:=by omega
    rw [List.drop_length]
    show Ev _ r
    refine Ev.step (fun k=>by rw [cohousingref23_Valid.l2]) (evNeg (by omega) ?_)
    rw [wrap_succ hi (by omega)];exact hr
  | succ d ih =>
    intro j hd hj
    have hlt:j < ws.length:=by omega
    have h2:=ih (j + 1) (by omega) (by omega)
    rw [dropc hlt]
    have e:(w2R F ws j (rd ws (j:Int) :: ws.drop (j + 1)) && r)=(hasR F (rd ws (j:Int)) && (decide (inZ (rd ws (j:Int)) 0 ws=(j:Int)) && (w2R F ws (j + 1) (ws.drop (j + 1)) && r))):=by rw [w2R];simp [Bool.and_assoc]
    rw [e]
    refine Ev.step (fun k=>by rw [cohousingref23_Valid.l2]) (evPos (by omega) (evPos (by omega) (Ev.bind (has_ev F _ hF) ?_)))
    cases hh:hasR F (rd ws (j:Int)) with
    | false=>exact evNeg (by decide) (Ev.now _)
    | true =>
      rw [Bool.true_and]
      refine evPos rfl (Ev.bind (in_ev ws _ hw) ?_)
      by_cases hx:inZ (rd ws (j:Int)) 0 ws=(j:Int)
      · rw [decide_eq_true hx,Bool.true_and]
        refine evPos hx ?_
        rw [wrap_succ hlt (by omega)];exact h2
      · rw [decide_eq_false hx,Bool.false_and]
        exact evNeg hx (Ev.now _)
/-- No earlier party holds the flat. -/
def p1R (P:List S41) (own:Int) (i j:Nat):Bool:=decide (own=0) || (List.range i).all fun m=>decide (m < j) || decide (ownP P m≠own)
theorem p1R_iff {P:List S41} {own:Int} {i j:Nat}:p1R P own i j=true ↔ (own=0 ∨ ∀ m,j≤m→m < i→ownP P m≠own):=by
  unfold p1R
  simp only [Bool.or_eq_true,decide_eq_true_eq,List.all_eq_true,List.mem_range]
  refine or_congr Iff.rfl ⟨fun h m h1 h2=>(h m h2).elim (fun h=>by omega) id,fun h m h2=>?_⟩
  by_cases h1:m < j
  · exact .inl h1
  · exact .inr (h m (by omega) h2)
theorem l1_ev {F:List S53} {P:List S41} {i:Nat} {id own:Int} {ws:List Int} {r:Bool} (hi:i < P.length) (hP:P.length≤1000000) (hr:Ev (fun k=>cohousingref23_Valid.l2 k (i:Int) 0 F P id own ws) r) :
    ∀ d j:Nat,d=i - j→j≤i→Ev (fun k=>cohousingref23_Valid.l1 k (i:Int) (j:Int) F P id own ws) (p1R P own i j && r):=by
  intro d
  induction d with
  | zero =>
    intro j hd hj
    obtain rfl:j=i:=by omega
    have e:p1R P own j j=true:=p1R_iff.2 (.inr (fun m h1 h2=>by omega))
    rw [e,Bool.true_and]
    exact Ev.step (fun k=>by rw [cohousingref23_Valid.l1]) (evNeg (by omega) hr)
  | succ d ih =>
    intro j hd hj
    have hlt:j < i:=by omega
    have h2:=ih (j + 1) (by omega) (by omega)
    have hw:wrap64 ((j:Int) + 1)=((j + 1:Nat):Int):=wrap_succ hlt (by omega)
    have hstep:(own=0 ∨ ownP P j≠own)→p1R P own i j=p1R P own i (j + 1):=fun h=>by
      refine Bool.eq_iff_iff.2 ?_
      rw [p1R_iff,p1R_iff]
      refine ⟨fun h3=>h3.imp (fun h=>h) (fun h4 m h5 h6=>h4 m (by omega) h6),fun h3=>?_⟩
      rcases h with h|h
      · exact .inl h
      · refine h3.imp (fun h=>h) (fun h4 m h5 h6=>?_)
        by_cases e:m=j
        · rw [e];exact h
        · exact h4 m (by omega) h6
    by_cases h0:own=0
    · rw [hstep (.inl h0)]
      refine Ev.step (fun k=>by rw [cohousingref23_Valid.l1]) (evPos (by omega) (evPos h0 ?_))
      rw [hw];exact h2
    · by_cases hx:(rd_T41 P (j:Int)).f1=own
      · have e:p1R P own i j=false:=Bool.eq_false_iff.2 (fun h=>(p1R_iff.1 h).elim h0 (fun h=>h j (Nat.le_refl _) hlt hx))
        rw [e,Bool.false_and]
        exact Ev.step (fun k=>by rw [cohousingref23_Valid.l1]) (evPos (by omega) (evNeg h0 (evPos (by omega) (evPos (by omega) (evPos hx (Ev.now _))))))
      · rw [hstep (.inr hx)]
        refine Ev.step (fun k=>by rw [cohousingref23_Valid.l1]) (evPos (by omega) (evNeg h0 (evPos (by omega) (evPos (by omega) (evNeg hx ?_)))))
        rw [hw];exact h2
/-- The flats that the first parties hold. -/
def tkR (P:List S41):Nat→(Int→Option Bool)
  | 0=>fun _=>none
  | k + 1=>putT (tkR P k) (rd_T41 P (k:Int))
theorem tkR_iff (P:List S41) (f:Int):∀ k,(tkR P k f).getD false=true ↔ ∃ m,m < k∧ownP P m=f
  | 0=>by simp [tkR]
  | k + 1=>by
    have ih:=tkR_iff P f k
    unfold tkR putT
    by_cases e:f=(rd_T41 P (k:Int)).f1
    · rw [if_pos e]
      exact ⟨fun _=>⟨k,by omega,e.symm⟩,fun _=>rfl⟩
    · rw [if_neg e,ih]
      constructor
      · rintro ⟨m,h1,h2⟩;exact ⟨m,by omega,h2⟩
      · rintro ⟨m,h1,h2⟩
        by_cases hm:m=k
        · subst hm;exact absurd h2.symm e
        · exact ⟨m,by omega,h2⟩
def lastP (P:List S41):Nat→Int
  | 0=>0
  | i + 1=>(rd_T41 P (i:Int)).f0
theorem valid_ev (F:List S53) (P:List S41) (hF:F.length≤64) (hP:P.length≤64) (hw:∀ p ∈ P,p.f2.length≤1000000):Ev (fun k=>cohousingref23_Valid.f k F P) (validG F P):=by
  refine Ev.bind (flats_ev F hF) ?_
  unfold validG
  cases hf:flatsB 0 F with
  | false =>
    rw [Bool.false_and]
    exact evNeg (by decide) (Ev.step (fun k=>by rw [cohousingref23_Valid.j0]) (evPos rfl (Ev.now _)))
  | true =>
    rw [Bool.true_and]
    refine evPos rfl (Ev.step (fun k=>by rw [cohousingref23_Valid.j0]) (evNeg (by simp;omega) ?_))
    have h:∀ d i:Nat,d=P.length - i→i≤P.length→0≤lastP P i→Ev (fun k=>cohousingref23_Valid.l0 k (i:Int) F P) (partiesB (roomsF F) (tkR P i) (lastP P i) (P.drop i)):=by
      intro d
      induction d with
      | zero =>
        intro i hd hi h0
        obtain rfl:i=P.length:=by omega
        rw [List.drop_length]
        show Ev _ true
        exact Ev.step (fun k=>by rw [cohousingref23_Valid.l0]) (evNeg (by omega) (Ev.now _))
      | succ d ih =>
        intro i hd hi h0
        have hlt:i < P.length:=by omega
        have h2:=ih (i + 1) (by omega) (by omega)
        have hid:lastP P (i + 1)=(rd_T41 P (i:Int)).f0:=rfl
        have htk:tkR P (i + 1)=putT (tkR P i) (rd_T41 P (i:Int)):=rfl
        rw [hid,htk] at h2
        have hwi:=hw _ (rd41_mem hlt)
        have hti:=tkR_iff P (rd_T41 P (i:Int)).f1 i
        rw [partiesB_step hlt]
        generalize partiesB (roomsF F) (putT (tkR P i) (rd_T41 P (i:Int))) (rd_T41 P (i:Int)).f0 (P.drop (i + 1))=rest at h2 ⊢
        have hp1:=p1R_iff (P:=P) (own:=(rd_T41 P (i:Int)).f1) (i:=i) (j:=0)
        have hww:=w2R_wants hf (rd_T41 P (i:Int)).f2
        have hhr:=has_rooms hf (rd_T41 P (i:Int)).f1
        have body:(rd_T41 P (i:Int)).f0 > lastP P i→(rd_T41 P (i:Int)).f0≤64→Ev (fun k=>cohousingref23_Valid.j2 k (i:Int) false F P (rd_T41 P (i:Int)).f0 (rd_T41 P (i:Int)).f1 (rd_T41 P (i:Int)).f2) (fitsB (roomsF F) (tkR P i) (lastP P i) (rd_T41 P (i:Int)) && rest):=by
          intro ha hb
          have h3:=h2 (by omega)
          have hl2:=l2_ev (F:=F) (P:=P) (id:=(rd_T41 P (i:Int)).f0) (own:=(rd_T41 P (i:Int)).f1) (ws:=(rd_T41 P (i:Int)).f2) (by omega) hwi (by omega) h3 _ 0 rfl (Nat.zero_le _)
          rw [List.drop_zero] at hl2
          have hl1:=l1_ev (F:=F) (P:=P) (id:=(rd_T41 P (i:Int)).f0) (own:=(rd_T41 P (i:Int)).f1) (ws:=(rd_T41 P (i:Int)).f2) hlt (by omega) hl2 _ 0 rfl (Nat.zero_le _)
          rw [hww] at hl1
          rw [show ((0:Nat):Int)=0 from rfl] at hl1
          generalize rd_T41 P (i:Int)=p at *
          have e:fitsB (roomsF F) (tkR P i) (lastP P i) p=((decide (p.f1=0) || hasR F p.f1) && (p1R P p.f1 i 0 && wantsB (roomsF F) (fun _=>none) p.f2)):=by
            have ht:p1R P p.f1 i 0=(decide (p.f1=0) || !(tkR P i p.f1).getD false):=by
              refine Bool.eq_iff_iff.2 ?_
              rw [hp1,Bool.or_eq_true,decide_eq_true_eq,Bool.not_eq_true',← Bool.not_eq_true,hti]
              refine or_congr Iff.rfl ⟨fun h=>?_,fun h m _ hm e=>h ⟨m,hm,e⟩⟩
              rintro ⟨m,hm,e⟩
              exact h m (Nat.zero_le _) hm e
            unfold fitsB headB
            rw [ht,hhr,decide_eq_false (show ¬ p.f0≤lastP P i by omega),decide_eq_false (show ¬ p.f0 > 64 by omega)]
            by_cases hz:p.f1=0
            · simp [hz]
            · have:(p.f1 != 0)=true:=by simpa using hz
              rw [this,decide_eq_false hz]
              cases ((roomsF F p.f1).getD 0 == 0) <;> cases (tkR P i p.f1).getD false <;> rfl
          rw [e,Bool.and_assoc,Bool.and_assoc]
          refine Ev.step (fun k=>by rw [cohousingref23_Valid.j2]) (evNeg (by decide) (Ev.bind (has_ev F _ (by omega)) ?_))
          by_cases hz:p.f1=0
          · rw [decide_eq_true hz,Bool.true_or,Bool.true_and]
            exact evPos hz (Ev.step (fun k=>by rw [cohousingref23_Valid.j3]) (evNeg (by decide) hl1))
          · rw [decide_eq_false hz,Bool.false_or]
            refine evNeg hz (Ev.step (fun k=>by rw [cohousingref23_Valid.j3]) ?_)
            cases hasR F p.f1 with
            | true=>rw [Bool.true_and];exact evNeg (by decide) hl1
            | false=>exact evPos rfl (Ev.now _)
        have badv:∀ {x:Bool},((rd_T41 P (i:Int)).f0≤lastP P i ∨ (rd_T41 P (i:Int)).f0 > 64)→(fitsB (roomsF F) (tkR P i) (lastP P i) (rd_T41 P (i:Int)) && x)=false:=fun h=>by
          have:fitsB (roomsF F) (tkR P i) (lastP P i) (rd_T41 P (i:Int))=false:=by
            unfold fitsB headB
            rcases h with h|h <;> simp [h]
          rw [this];rfl
        have badj:Ev (fun k=>cohousingref23_Valid.j2 k (i:Int) true F P (rd_T41 P (i:Int)).f0 (rd_T41 P (i:Int)).f1 (rd_T41 P (i:Int)).f2) false:=Ev.step (fun k=>by rw [cohousingref23_Valid.j2]) (evPos rfl (Ev.now _))
        refine Ev.step (fun k=>by rw [cohousingref23_Valid.l0]) (evPos (by omega) (evPos (by omega) (evIte (fun h1=>evEq badj (badv (.inl (by omega))).symm) (fun h1=>evIte (fun h3=>evEq badj (badv (.inr h3)).symm) (fun h3=>?_)))))
        cases i with
        | zero=>exact evNeg (by omega) (body (by show (rd_T41 P ((0:Nat):Int)).f0 > 0;omega) (by omega))
        | succ i =>
          have hwr:wrap64 (((i + 1:Nat):Int) - 1)=(i:Int):=by rw [Go.IntWalk.wrap64_in _ (by omega)];omega
          rw [hwr]
          refine evPos (by omega) (evPos (by omega) (evPos (by omega) ?_))
          by_cases hle:(rd_T41 P ((i + 1:Nat):Int)).f0≤(rd_T41 P (i:Int)).f0
          · rw [decide_eq_true hle]
            exact evEq badj (badv (.inl hle)).symm
          · rw [decide_eq_false hle]
            exact body (by show _ > (rd_T41 P (i:Int)).f0;omega) (by omega)
    exact h P.length 0 rfl (Nat.zero_le _) (Int.le_refl _)
end Go.Proofs.Ytjgnkhfgmpaljaa.P
namespace Go.Proofs.Ytjgnkhfgmpaljaa.P
open Go.RowKit Go.Proofs.YtjgnkhfgmpaljaaW.PrintWords Go.Proofs.YtjgnkhfgmpaljaaW.PrintLast Go.Proofs.YtjgnkhfgmpaljaaW.PrintMore Go.Proofs.Ytjgnkhfgmpaljaa.M
open Go.Proofs.Ytjgnkhfgmpaljaa
set_option linter.unusedVariables false
set_option linter.unusedSimpArgs false
theorem perm_of_sub:∀ (a b:List Int),a.Nodup→(∀ x ∈ a,x ∈ b)→a.length=b.length→a.Perm b
  | [],b,_,_,h=>by
    have:b=[]:=List.length_eq_zero_iff.1 (by simpa using h.symm)
    rw [this]
  | x :: a,b,hn,hs,hl=>by
    have hx:=hs x List.mem_cons_self
    rw [List.nodup_cons] at hn
    have h1:=List.perm_cons_erase hx
    refine ((perm_of_sub a (b.erase x) hn.2 (fun y hy=>?_) ?_).cons x).trans h1.symm
    · exact (List.mem_erase_of_ne (fun e=>hn.1 (by rw [← e];exact hy))).2 (hs y (List.mem_cons_of_mem _ hy))
    · rw [List.length_erase_of_mem hx];simp at hl;omega
def ordR (l:List Int) (n:Nat):Nat→Bool
  | 0=>true
  | k + 1=>decide (((n - (k + 1):Nat):Int) ∈ l) && ordR l n k
theorem ordR_iff (l:List Int) (n:Nat):∀ k,k≤n→(ordR l n k=true ↔ ∀ i:Nat,n - k≤i→i < n→(i:Int) ∈ l)
  | 0,_=>⟨fun _ i h1 h2=>by omega,fun _=>rfl⟩
  | k + 1,hk=>by
    unfold ordR
    rw [Bool.and_eq_true,decide_eq_true_eq,ordR_iff l n k (by omega)]
    constructor
    · rintro ⟨h1,h2⟩ i h3 h4
      by_cases e:i=n - (k + 1)
      · rw [e];exact h1
      · exact h2 i (by omega) h4
    · intro h
      exact ⟨h _ (Nat.le_refl _) (by omega),fun i h1 h2=>h i (by omega) h2⟩
theorem ids_range':∀ (n k:Nat),idsB k ((List.range' k n).map fun (i:Nat)=>(i:Int))=true
  | 0,k=>rfl
  | n + 1,k=>by
    rw [List.range'_succ,List.map_cons]
    unfold idsB
    simp [ids_range' n (k + 1)]
theorem order_eq (l:List Int) (n:Nat) (hl:l.length=n):orderB l (n:Int)=ordR l n n:=by
  refine Bool.eq_iff_iff.2 ?_
  rw [ordR_iff l n n (Nat.le_refl _)]
  constructor
  · intro h i _ h2
    exact (order_ok h).2.2 i h2
  · intro h
    have hp:((List.range n).map fun (i:Nat)=>(i:Int)).Perm l:=perm_of_sub _ _ (by
      unfold List.Nodup
      rw [List.pairwise_map]
      exact List.nodup_range.imp (fun h e=>h (by omega))) (fun x hx=>by
        obtain ⟨i,hi,rfl⟩:=List.mem_map.1 hx
        exact h i (by omega) (List.mem_range.1 hi)) (by simp [hl])
    have hs:sortL l=(List.range n).map fun (i:Nat)=>(i:Int):=by
      unfold sortL
      have h1:(l.mergeSort fun x y=>decide (x≤y)).Pairwise (fun x y=>decide (x≤y)=true):=List.pairwise_mergeSort (fun a b c h1 h2=>by simp only [decide_eq_true_eq] at *;omega) (fun a b=>by simp only [Bool.or_eq_true,decide_eq_true_eq];omega) l
      refine List.Perm.eq_of_pairwise (le:=fun x y=>decide (x≤y)=true) (fun a b _ _ h1 h2=>by simp only [decide_eq_true_eq] at *;omega) h1 ?_ ((List.mergeSort_perm _ _).trans hp.symm)
      rw [List.pairwise_map]
      exact List.pairwise_lt_range.imp (fun h=>by simp only [decide_eq_true_eq];omega)
    unfold orderB
    rw [hs,hl]
    have:=ids_range' n 0
    rw [List.range_eq_range',this];simp
theorem inZ_neg (x:Int):∀ (l:List Int) (k:Nat),inZ x k l < 0 ↔ x ∉ l
  | [],k=>by simp [inZ]
  | a :: l,k=>by
    unfold inZ
    by_cases e:a=x
    · rw [if_pos e];simp [e]
    · rw [if_neg e,inZ_neg x l (k + 1),List.mem_cons]
      constructor
      · intro h h2;exact h2.elim (fun e2=>e e2.symm) h
      · intro h h2;exact h (.inr h2)
theorem order_ev (l:List Int) (n:Nat) (hl:l.length≤1000000) (hn:n≤1000000):Ev (fun k=>cohousingref24_Order.f k l (n:Int)) (orderB l (n:Int)):=by
  by_cases he:l.length=n
  · rw [order_eq l n he]
    refine evPos (by omega) ?_
    have h:∀ d,d≤n→Ev (fun k=>cohousingref24_Order.l0 k l (n:Int) ((n - d:Nat):Int)) (ordR l n d):=by
      intro d
      induction d with
      | zero =>
        intro _
        show Ev _ true
        exact Ev.step (fun k=>by rw [cohousingref24_Order.l0]) (evNeg (by omega) (Ev.now _))
      | succ d ih =>
        intro hd
        have h2:=ih (by omega)
        unfold ordR
        refine Ev.step (fun k=>by rw [cohousingref24_Order.l0]) (evPos (by omega) (Ev.bind (in_ev l _ hl) ?_))
        have hi:=inZ_neg ((n - (d + 1):Nat):Int) l 0
        by_cases hx:((n - (d + 1):Nat):Int) ∈ l
        · rw [decide_eq_true hx,Bool.true_and]
          refine evNeg (fun h=>hi.1 h hx) ?_
          rw [wrap_succ (show n - (d + 1) < n by omega) (by omega),show n - (d + 1) + 1=n - d by omega];exact h2
        · rw [decide_eq_false hx,Bool.false_and]
          exact evPos (hi.2 hx) (Ev.now _)
    have:=h n (Nat.le_refl _)
    rw [Nat.sub_self] at this
    exact this
  · have e:orderB l (n:Int)=false:=Bool.eq_false_iff.2 (fun h=>he (order_ok h).1)
    rw [e]
    exact evNeg (by omega) (Ev.now _)
def fewR (F:List S53) (P:List S41):Bool:=decide (F.length≤20) && (decide (P.length≤20) && P.all fun p=>decide (p.f2.length≤30))
theorem few_ev (F:List S53) (P:List S41):Ev (fun k=>cohousingref23_Few.f k F P) (fewR F P):=by
  unfold fewR
  by_cases h1:F.length≤20
  · rw [decide_eq_true h1,Bool.true_and]
    refine evNeg (by omega) (Ev.step (fun k=>by rw [cohousingref23_Few.j0]) ?_)
    by_cases h2:P.length≤20
    · rw [decide_eq_true h2,Bool.true_and]
      refine evNeg (by simp;omega) ?_
      have h:∀ d i:Nat,d=P.length - i→i≤P.length→Ev (fun k=>cohousingref23_Few.l0 k (i:Int) F P) ((P.drop i).all fun p=>decide (p.f2.length≤30)):=by
        intro d
        induction d with
        | zero =>
          intro i hd hi
          obtain rfl:i=P.length:=by omega
          rw [List.drop_length]
          show Ev _ true
          exact Ev.step (fun k=>by rw [cohousingref23_Few.l0]) (evNeg (by omega) (Ev.now _))
        | succ d ih =>
          intro i hd hi
          have hlt:i < P.length:=by omega
          have h3:=ih (i + 1) (by omega) (by omega)
          rw [dropc41 hlt,List.all_cons]
          by_cases h4:(rd_T41 P (i:Int)).f2.length≤30
          · rw [decide_eq_true h4,Bool.true_and]
            refine Ev.step (fun k=>by rw [cohousingref23_Few.l0]) (evPos (by omega) (evPos (by omega) (evNeg (by omega) ?_)))
            rw [wrap_succ hlt (by omega)];exact h3
          · rw [decide_eq_false h4,Bool.false_and]
            exact Ev.step (fun k=>by rw [cohousingref23_Few.l0]) (evPos (by omega) (evPos (by omega) (evPos (by omega) (Ev.now _))))
      exact h P.length 0 rfl (Nat.zero_le _)
    · rw [decide_eq_false h2,Bool.false_and]
      exact evPos (by simp;omega) (Ev.now _)
  · rw [decide_eq_false h1,Bool.false_and]
    exact evPos (by omega) (Ev.step (fun k=>by rw [cohousingref23_Few.j0]) (evPos rfl (Ev.now _)))
def useR (F:List S53) (P:List S41) (ord:List Int):Bool:=fewR F P && (decide (ord.length≤30) && okB F P ord)
theorem fewR_iff {F:List S53} {P:List S41}:fewR F P=true ↔ F.length≤20∧P.length≤20∧∀ p ∈ P,p.f2.length≤30:=by unfold fewR;simp
end Go.Proofs.Ytjgnkhfgmpaljaa.P
namespace Go.Proofs.Ytjgnkhfgmpaljaa.P
open Go.RowKit Go.Proofs.YtjgnkhfgmpaljaaW.PrintWords Go.Proofs.YtjgnkhfgmpaljaaW.PrintLast Go.Proofs.YtjgnkhfgmpaljaaW.PrintMore Go.Proofs.Ytjgnkhfgmpaljaa.M
open Go.Proofs.Ytjgnkhfgmpaljaa
set_option linter.unusedVariables false
set_option linter.unusedSimpArgs false
def outAt (P:List S41) (tos:List Int) (i:Nat):S39:=⟨(rd_T41 P (i:Int)).f0,(rd_T41 P (i:Int)).f1,rd tos (i:Int)⟩
theorem outM_get (P:List S41) (tos:List Int):∀ k,k≤P.length→∀ i:Nat,i < P.length→rd_T39 (outM P tos k) (i:Int)=if i < k then outAt P tos i else ⟨0,0,0⟩
  | 0,_,i,hi=>by
    rw [rd39_get (by rw [outM_len];exact hi)];simp [outM]
  | k + 1,hk,i,hi=>by
    have ih:=outM_get P tos k (by omega) i hi
    rw [rd39_get (by rw [outM_len];exact hi)] at ih ⊢
    unfold outM
    rw [List.getElem_set]
    by_cases e:k=i
    · subst e;rw [if_pos rfl,if_pos (by omega)];rfl
    · rw [if_neg e,ih]
      by_cases h:i < k
      · rw [if_pos h,if_pos (by omega)]
      · rw [if_neg h,if_neg (by omega)]
def occR (P:List S41) (f:Int):Bool:=P.any fun p=>decide (p.f1=f)
end Go.Proofs.Ytjgnkhfgmpaljaa.P
namespace Go.Proofs.Ytjgnkhfgmpaljaa.P
open Go.RowKit Go.Proofs.YtjgnkhfgmpaljaaW.PrintWords Go.Proofs.YtjgnkhfgmpaljaaW.PrintLast Go.Proofs.YtjgnkhfgmpaljaaW.PrintMore Go.Proofs.Ytjgnkhfgmpaljaa.M
set_option linter.unusedVariables false
set_option linter.unusedSimpArgs false
theorem C_fl2 {W:World} {b:Nat} {t:TypeId} (x y:S53) (h:W.heap[b]? = some (.cells #[.int .i64 x.f0,.int .i64 x.f1,.int .i64 y.f0,.int .i64 y.f1] t (0,0))):Kd.C k53 W (some ⟨b,0,none⟩) 2 [x,y]:=by
 refine ⟨rfl,by decide,fun _=>⟨_,rfl,fun j p hj=>?_⟩⟩
 match j,hj with
 | 0,hj=>cases hj;exact ⟨_,rfl,k53_mk W x,fun i u hi=>by rw [add_plain,blk_cell h];match i,hi with|0,hi=>exact hi|1,hi=>exact hi⟩
 | 1,hj=>cases hj;exact ⟨_,rfl,k53_mk W y,fun i u hi=>by rw [add_plain,blk_cell h];match i,hi with|0,hi=>exact hi|1,hi=>exact hi⟩
theorem C_pa2 {W:World} {b:Nat} {t:TypeId} (x y:S41) {A A':Option Addr} {c c':Nat} (hx:(Kd.int .i64).C W A x.f2.length x.f2) (hxc:x.f2.length≤c) (hy:(Kd.int .i64).C W A' y.f2.length y.f2) (hyc:y.f2.length≤c')
  (h:W.heap[b]? = some (.cells #[.int .i64 x.f0,.int .i64 x.f1,.slice A x.f2.length c,.int .i64 y.f0,.int .i64 y.f1,.slice A' y.f2.length c'] t (0,0))):Kd.C k41 W (some ⟨b,0,none⟩) 2 [x,y]:=by
 refine ⟨rfl,by decide,fun _=>⟨_,rfl,fun j p hj=>?_⟩⟩
 match j,hj with
 | 0,hj=>cases hj;exact ⟨_,rfl,k41_mk W x hxc hx,fun i u hi=>by rw [add_plain,blk_cell h];match i,hi with|0,hi=>exact hi|1,hi=>exact hi|2,hi=>exact hi⟩
 | 1,hj=>cases hj;exact ⟨_,rfl,k41_mk W y hyc hy,fun i u hi=>by rw [add_plain,blk_cell h];match i,hi with|0,hi=>exact hi|1,hi=>exact hi|2,hi=>exact hi⟩
theorem C_mv2 {W:World} {b:Nat} {t:TypeId} (x y:S39) (h:W.heap[b]? = some (.cells #[.int .i64 x.f0,.int .i64 x.f1,.int .i64 x.f2,.int .i64 y.f0,.int .i64 y.f1,.int .i64 y.f2] t (0,0))):Kd.C k39 W (some ⟨b,0,none⟩) 2 [x,y]:=by
 refine ⟨rfl,by decide,fun _=>⟨_,rfl,fun j p hj=>?_⟩⟩
 match j,hj with
 | 0,hj=>cases hj;exact ⟨_,rfl,k39_mk W x,fun i u hi=>by rw [add_plain,blk_cell h];match i,hi with|0,hi=>exact hi|1,hi=>exact hi|2,hi=>exact hi⟩
 | 1,hj=>cases hj;exact ⟨_,rfl,k39_mk W y,fun i u hi=>by rw [add_plain,blk_cell h];match i,hi with|0,hi=>exact hi|1,hi=>exact hi|2,hi=>exact hi⟩
theorem C_ri1 {W:World} {b:Nat} {t:TypeId} (x:S47) {A:Option Addr} {c:Nat} (hx:Kd.C k39 W A x.f1.length x.f1) (hxc:x.f1.length≤c) (h:W.heap[b]? = some (.cells #[.bool x.f0,.slice A x.f1.length c] t (0,0))):Kd.C k47 W (some ⟨b,0,none⟩) 1 [x]:=by
 refine ⟨rfl,by decide,fun _=>⟨_,rfl,fun j p hj=>?_⟩⟩
 match j,hj with
 | 0,hj=>cases hj;exact ⟨_,rfl,k47_mk W x hxc hx,fun i u hi=>by rw [add_plain,blk_cell h];match i,hi with|0,hi=>exact hi|1,hi=>exact hi⟩
theorem C_in1 {W:World} {b:Nat} {t:TypeId} (x:Int) (h:W.heap[b]? = some (.cells #[.int .i64 x] t (0,0))):(Kd.int .i64).C W (some ⟨b,0,none⟩) 1 [x]:=by
 refine ⟨rfl,by decide,fun _=>⟨_,rfl,fun j p hj=>?_⟩⟩
 match j,hj with
 | 0,hj=>cases hj;exact ⟨_,rfl,rfl,fun i u hi=>by rw [add_plain,blk_cell h];match i,hi with|0,hi=>exact hi⟩
theorem C_in2 {W:World} {b:Nat} {t:TypeId} (x y:Int) (h:W.heap[b]? = some (.cells #[.int .i64 x,.int .i64 y] t (0,0))):(Kd.int .i64).C W (some ⟨b,0,none⟩) 2 [x,y]:=by
 refine ⟨rfl,by decide,fun _=>⟨_,rfl,fun j p hj=>?_⟩⟩
 match j,hj with
 | 0,hj=>cases hj;exact ⟨_,rfl,rfl,fun i u hi=>by rw [add_plain,blk_cell h];match i,hi with|0,hi=>exact hi⟩
 | 1,hj=>cases hj;exact ⟨_,rfl,rfl,fun i u hi=>by rw [add_plain,blk_cell h];match i,hi with|0,hi=>exact hi⟩
def hF1:List S53:=[⟨1,2⟩,⟨2,2⟩]
def hF2:List S53:=[⟨1,2⟩,⟨3,2⟩]
def hP1:List S41:=[⟨5,1,[2]⟩,⟨6,2,[1]⟩]
def hP2:List S41:=[⟨5,1,[3]⟩,⟨6,0,[1]⟩]
def hP3:List S41:=[⟨5,1,[3]⟩,⟨6,0,[3,1]⟩]
def hM1:List S39:=[⟨5,1,2⟩,⟨6,2,1⟩]
def hM2:List S39:=[⟨5,1,3⟩,⟨6,0,1⟩]
theorem sort01:sortL [0,1]=[0,1]:=by unfold sortL;simp [List.mergeSort,List.merge,List.MergeSort.Internal.splitInTwo]
theorem sort10:sortL [1,0]=[0,1]:=by unfold sortL;simp [List.mergeSort,List.merge,List.MergeSort.Internal.splitInTwo]
theorem sort00:sortL [0,0]=[0,0]:=by unfold sortL;simp [List.mergeSort,List.merge,List.MergeSort.Internal.splitInTwo]
theorem ex1:trade_Solve.f hF1 hP1 [0,1]=some (hM1,[⟨false,hM1⟩],0):=by
 have h:okB hF1 hP1 [0,1]=true:=by unfold okB orderB;rw [sort01];decide
 unfold trade_Solve.f solveG
 rw [if_pos h,if_pos (by decide)];rfl
theorem ex2:trade_Solve.f hF2 hP2 [1,0]=some (hM2,[⟨true,hM2⟩],0):=by
 have h:okB hF2 hP2 [1,0]=true:=by unfold okB orderB;rw [sort10];decide
 unfold trade_Solve.f solveG
 rw [if_pos h,if_pos (by decide)];rfl
theorem ex3:trade_Solve.f hF2 hP3 [0,1]=some (hM2,[⟨true,hM2⟩],0):=by
 have h:okB hF2 hP3 [0,1]=true:=by unfold okB orderB;rw [sort01];decide
 unfold trade_Solve.f solveG
 rw [if_pos h,if_pos (by decide)];rfl
theorem ex4:trade_Solve.f hF2 hP3 [0,0]=some ([],[],1):=by
 have h:okB hF2 hP3 [0,0]=false:=by unfold okB orderB;rw [sort00];decide
 unfold trade_Solve.f solveG
 rw [if_pos (show okIn hF2 hP3 [0,0]=true by decide),if_neg (show ¬ okB hF2 hP3 [0,0]=true by rw [h];decide)]
/-- A market of two flats and two parties, as it is laid. -/
def mkW (w:World) (i r j q p f a p' f' a':Int):World :=
 ((((w.alloc (.cells #[.int .i64 i,.int .i64 r,.int .i64 j,.int .i64 q] 53)).alloc (.cells #[.int .i64 a] 3)).alloc (.cells #[.int .i64 a'] 3)).alloc
  (.cells #[.int .i64 p,.int .i64 f,.slice (some ⟨w.heap.size + 1,0,none⟩) 1 1,.int .i64 p',.int .i64 f',.slice (some ⟨w.heap.size + 1 + 1,0,none⟩) 1 1] 41)).alloc
  (.cells #[.slice (some ⟨w.heap.size,0,none⟩) 2 2,.slice (some ⟨w.heap.size + 1 + 1 + 1,0,none⟩) 2 2] 25)
structure Mk (W:World) (bF b1 b2 bP bM:Nat) (i r j q p f a p' f' a':Int):Prop where
 hF:W.heap[bF]? = some (.cells #[.int .i64 i,.int .i64 r,.int .i64 j,.int .i64 q] 53 (0,0))
 hX:W.heap[b1]? = some (.cells #[.int .i64 a] 3 (0,0))
 hY:W.heap[b2]? = some (.cells #[.int .i64 a'] 3 (0,0))
 hP:W.heap[bP]? = some (.cells #[.int .i64 p,.int .i64 f,.slice (some ⟨b1,0,none⟩) 1 1,.int .i64 p',.int .i64 f',.slice (some ⟨b2,0,none⟩) 1 1] 41 (0,0))
 hM:W.heap[bM]? = some (.cells #[.slice (some ⟨bF,0,none⟩) 2 2,.slice (some ⟨bP,0,none⟩) 2 2] 25 (0,0))
theorem mk_of (w:World) (i r j q p f a p' f' a':Int):Mk (mkW w i r j q p f a p' f' a') w.heap.size (w.heap.size + 1) (w.heap.size + 1 + 1) (w.heap.size + 1 + 1 + 1) (w.heap.size + 1 + 1 + 1 + 1) i r j q p f a p' f' a'∧Below w.heap.size w (mkW w i r j q p f a p' f' a'):=by
 unfold mkW
 refine ⟨⟨blk_alloc (blk_alloc (blk_alloc (blk_alloc (blk_new _ _) _) _) _) _,blk_alloc (blk_alloc (blk_alloc ?_ _) _) _,blk_alloc (blk_alloc ?_ _) _,blk_alloc ?_ _,?_⟩,below_alloc (below_alloc (below_alloc (below_alloc (below_alloc (Below.refl _ _) _) _) _) _) _⟩
 ·
  have:=blk_new (w.alloc (.cells #[.int .i64 i,.int .i64 r,.int .i64 j,.int .i64 q] 53)) (.cells #[.int .i64 a] 3)
  rwa [World.size_alloc] at this
 all_goals
  first
   | (have:=blk_new ((w.alloc (.cells #[.int .i64 i,.int .i64 r,.int .i64 j,.int .i64 q] 53)).alloc (.cells #[.int .i64 a] 3)) (.cells #[.int .i64 a'] 3);rw [World.size_alloc,World.size_alloc] at this;exact this)
   | (have:=blk_new (((w.alloc (.cells #[.int .i64 i,.int .i64 r,.int .i64 j,.int .i64 q] 53)).alloc (.cells #[.int .i64 a] 3)).alloc (.cells #[.int .i64 a'] 3)) (.cells #[.int .i64 p,.int .i64 f,.slice (some ⟨w.heap.size + 1,0,none⟩) 1 1,.int .i64 p',.int .i64 f',.slice (some ⟨w.heap.size + 1 + 1,0,none⟩) 1 1] 41);rw [World.size_alloc,World.size_alloc,World.size_alloc] at this;exact this)
   | (have:=blk_new ((((w.alloc (.cells #[.int .i64 i,.int .i64 r,.int .i64 j,.int .i64 q] 53)).alloc (.cells #[.int .i64 a] 3)).alloc (.cells #[.int .i64 a'] 3)).alloc (.cells #[.int .i64 p,.int .i64 f,.slice (some ⟨w.heap.size + 1,0,none⟩) 1 1,.int .i64 p',.int .i64 f',.slice (some ⟨w.heap.size + 1 + 1,0,none⟩) 1 1] 41)) (.cells #[.slice (some ⟨w.heap.size,0,none⟩) 2 2,.slice (some ⟨w.heap.size + 1 + 1 + 1,0,none⟩) 2 2] 25);rw [World.size_alloc,World.size_alloc,World.size_alloc,World.size_alloc] at this;exact this)
theorem Mk.below {W W':World} {bF b1 b2 bP bM:Nat} {i r j q p f a p' f' a':Int} (h:Mk W bF b1 b2 bP bM i r j q p f a p' f' a') (hb:Below W.heap.size W W'):Mk W' bF b1 b2 bP bM i r j q p f a p' f' a' :=
 ⟨blk_below h.hF hb,blk_below h.hX hb,blk_below h.hY hb,blk_below h.hP hb,blk_below h.hM hb⟩
theorem Mk.cf {W:World} {bF b1 b2 bP bM:Nat} {i r j q p f a p' f' a':Int} (h:Mk W bF b1 b2 bP bM i r j q p f a p' f' a'):Kd.C k53 W (some ⟨bF,0,none⟩) 2 [⟨i,r⟩,⟨j,q⟩]:=C_fl2 ⟨i,r⟩ ⟨j,q⟩ h.hF
theorem Mk.cp {W:World} {bF b1 b2 bP bM:Nat} {i r j q p f a p' f' a':Int} (h:Mk W bF b1 b2 bP bM i r j q p f a p' f' a'):Kd.C k41 W (some ⟨bP,0,none⟩) 2 [⟨p,f,[a]⟩,⟨p',f',[a']⟩] :=
 C_pa2 ⟨p,f,[a]⟩ ⟨p',f',[a']⟩ (C_in1 a h.hX) (Nat.le_refl _) (C_in1 a' h.hY) (Nat.le_refl _) h.hP
/-- Solve at two flats, two parties. -/
theorem solve2 {F:List S53} {P:List S41} {x y:Int} {mv:List S39} {rg:List S47} {er:Int} (hF:F.length=2) (hP:P.length=2) (h:trade_Solve.f F P [x,y]=some (mv,rg,er)) {W:World} {bF bP:Nat} (h1:Kd.C k53 W (some ⟨bF,0,none⟩) 2 F) (h2:Kd.C k41 W (some ⟨bP,0,none⟩) 2 P) :
  Calls Try.prog 18 #[.agg #[.slice (some ⟨bF,0,none⟩) 2 2,.slice (some ⟨bP,0,none⟩) 2 2],.slice (some ⟨W.heap.size,0,none⟩) 2 2] (W.alloc (.cells #[.int .i64 x,.int .i64 y] 3)) (SolvePost (W.alloc (.cells #[.int .i64 x,.int .i64 y] 3)) mv rg er):=by
 have hb:=below_alloc (Below.refl W.heap.size W) (.cells #[.int .i64 x,.int .i64 y] 3)
 have:=trade_Solve.calls (some ⟨bF,0,none⟩) 2 F (some ⟨bP,0,none⟩) 2 P (some ⟨W.heap.size,0,none⟩) 2 [x,y] mv rg er (W.alloc (.cells #[.int .i64 x,.int .i64 y] 3)) (by rw [hF];exact Kd.C_below h1 hb) (by omega) (by rw [hP];exact Kd.C_below h2 hb) (by omega) (C_in2 x y (blk_new _ _)) (Nat.le_refl _) h
 rw [hF,hP] at this
 exact this
theorem sm_calls {A0 A1:Option Addr} {c0 c1:Nat} {l0:List S39} (x y:S39) {W:World} (h0:Kd.C k39 W A0 l0.length l0) (hc0:l0.length≤c0) (h1:Kd.C k39 W A1 2 [x,y]) (hc1:2≤c1) (h:cohousingref24_SameMoves.f 20 l0 [x,y]=some true) :
  Calls Try.prog 20 #[.slice A0 l0.length c0,.slice A1 2 c1] W (RetB W true) :=
 (cohousingref24_SameMoves.calls 20 A0 c0 l0 A1 c1 [x,y] true W h0 hc0 h1 hc1 h).mono fun e w' ⟨h1,h2⟩=>⟨h1,h2.below⟩
theorem sr_calls {A0 A1:Option Addr} {c0 c1:Nat} (x0 x:S47) {W:World} (h0:Kd.C k47 W A0 1 [x0]) (hc0:1≤c0) (h1:Kd.C k47 W A1 1 [x]) (hc1:1≤c1) (h:cohousingref24_SameRings.f 20 [x0] [x]=some true) :
  Calls Try.prog 21 #[.slice A0 1 c0,.slice A1 1 c1] W (RetB W true) :=
 (cohousingref24_SameRings.calls 20 A0 c0 [x0] A1 c1 [x] true W h0 hc0 h1 hc1 h).mono fun e w' ⟨h1,h2⟩=>⟨h1,h2.below⟩
theorem e1:cohousingref24_SameMoves.f 20 hM1 [⟨5,1,2⟩,⟨6,2,1⟩]=some true:=by kernel_rfl
theorem e2:cohousingref24_SameMoves.f 20 hM2 [⟨5,1,3⟩,⟨6,0,1⟩]=some true:=by kernel_rfl
theorem e3:cohousingref24_SameRings.f 20 [⟨false,hM1⟩] [⟨false,hM1⟩]=some true:=by kernel_rfl
theorem e4:cohousingref24_SameRings.f 20 [⟨true,hM2⟩] [⟨true,hM2⟩]=some true:=by kernel_rfl
def cohousinglaw24_head.f:Option Bool:=some true
set_option maxHeartbeats 16000000 in
set_option maxRecDepth 100000 in
theorem cohousinglaw24_head.calls (r:Bool) (w:World) (h:cohousinglaw24_head.f=some r) :
  Calls Try.prog 16 #[] w fun e w'=>e = .returned (.bool r)∧Below w.heap.size w w':=by
 cases h
 have hu53:=Try.underlying53
 have hu41:=Try.underlying41
 have hu25:=Try.underlying25
 have hu39:=Try.underlying39
 have hu47:=Try.underlying47
 go_enter Try.func16,Try.ntmps16
 go_upto_region 2 with (fail)
 show Code.wp _ _ _ _ (mkW w 1 2 2 2 5 1 2 6 2 1)
 obtain ⟨hm,hb⟩:=mk_of w 1 2 2 2 5 1 2 6 2 1
 have HMA:=zF hm
 have HBA:=zF hb
 generalize mkW w 1 2 2 2 5 1 2 6 2 1=wA at HMA HBA ⊢
 clear hm hb
 generalize w.heap.size + 1 + 1 + 1 + 1=mA at *
 generalize w.heap.size + 1 + 1 + 1=pA at *
 generalize w.heap.size + 1 + 1=yA at *
 generalize w.heap.size + 1=xA at *
 generalize hfa:w.heap.size=fA at HMA ⊢
 clear hfa
 have x0:wA.cell? ⟨mA,0,none⟩=some (.slice (some ⟨fA,0,none⟩) 2 2):=(blk_cell HMA.out.hM 0).trans rfl
 have x1:wA.cell? ⟨mA,1,none⟩=some (.slice (some ⟨pA,0,none⟩) 2 2):=(blk_cell HMA.out.hM 1).trans rfl
 have HS:=zF (solve2 (F:=hF1) (P:=hP1) rfl rfl ex1 HMA.out.cf HMA.out.cp)
 go_upto_region 3 with (go_at_call 18;(with_reducible refine HS.out.mono ?_);rintro e w2 ⟨va,vb,rfl,ho0,ho1,hb⟩;have HRa:=zF ho0;have HSb:=zF ho1;have HB2:=zF (below_step HBA.out (below_then (below_alloc (Below.refl _ _) _) (by simp) hb));clear ho0 ho1 hb)
 clear x0 x1 HS HMA HBA
 obtain ⟨Aa,ca,ea,hla,hCa⟩:=Kd.R_reads HRa.out
 obtain ⟨Ab,cb,eb,hlb,hCb⟩:=Kd.S_reads HSb.out
 subst ea eb
 have HCa:=zF hCa
 have HCb:=zF hCb
 have HLa:=zF hla
 have HLb:=zF hlb
 clear HRa HSb hCa hCb hla hlb
 go_upto_region 4 with (fail)
 show Code.wp _ _ _ _ (mkW w2 1 2 3 2 5 1 3 6 0 1)
 obtain ⟨hm,hb⟩:=mk_of w2 1 2 3 2 5 1 3 6 0 1
 have HMB:=zF hm
 have HBB:=zF hb
 have HpB:Aside0 (w2.heap.size≤w2.heap.size + 1 + 1 + 1):=⟨by omega⟩
 generalize mkW w2 1 2 3 2 5 1 3 6 0 1=wB at HMB HBB ⊢
 clear hm hb
 generalize w2.heap.size + 1 + 1 + 1 + 1=mB at *
 generalize w2.heap.size + 1 + 1 + 1=pB at *
 generalize w2.heap.size + 1 + 1=yB at *
 generalize w2.heap.size + 1=xB at *
 generalize hfa:w2.heap.size=fB at HMB ⊢
 clear hfa
 have x0:wB.cell? ⟨mB,0,none⟩=some (.slice (some ⟨fB,0,none⟩) 2 2):=(blk_cell HMB.out.hM 0).trans rfl
 have x1:wB.cell? ⟨mB,1,none⟩=some (.slice (some ⟨pB,0,none⟩) 2 2):=(blk_cell HMB.out.hM 1).trans rfl
 have HS:=zF (solve2 (F:=hF2) (P:=hP2) rfl rfl ex2 HMB.out.cf HMB.out.cp)
 go_upto_region 5 with (go_at_call 18;(with_reducible refine HS.out.mono ?_);rintro e w4 ⟨vc,vd,rfl,ho0,ho1,hb⟩;have HRc:=zF ho0;have HSd:=zF ho1;have HB4:=zF (below_then (below_alloc (Below.refl wB.heap.size wB) _) (by simp) hb);clear ho0 ho1 hb)
 clear x0 x1 HS
 obtain ⟨Ac,cc,ec,hlc,_⟩:=Kd.R_reads HRc.out
 obtain ⟨Ad,cd,ed,hld,_⟩:=Kd.S_reads HSd.out
 subst ec ed
 have HLc:=zF hlc
 have HLd:=zF hld
 clear hlc hld
 have HM4:=zF (HMB.out.below HB4.out)
 have HPl:=zF (blk_lt HM4.out.hP)
 have HB24:=zF (below_step HBB.out HB4.out)
 clear HMB HB4 HBB
 have z1:w4.cell? ⟨mB,1,none⟩=some (.slice (some ⟨pB,0,none⟩) 2 2):=(blk_cell HM4.out.hM 1).trans rfl
 have t5:(w4.alloc (.cells #[.int .i64 3,.int .i64 1] 3)).cell? ⟨pB,5,none⟩=some (.slice (some ⟨yB,0,none⟩) 1 1):=(blk_cell (blk_alloc HM4.out.hP _) 5).trans rfl
 have t6:=blk_frozen (blk_alloc HM4.out.hP (.cells #[.int .i64 3,.int .i64 1] 3)) 5
 go_upto_region 6 with (fail)
 clear z1 t5 t6
 have hq0:=blk_new w4 (.cells #[.int .i64 3,.int .i64 1] 3)
 have hPa:=blk_alloc HM4.out.hP (.cells #[.int .i64 3,.int .i64 1] 3)
 have hne:w4.heap.size≠pB:=fun e=>by have:=HPl.out;omega
 have HQ5:=zF (blk_far (p:=⟨pB,5,none⟩) hq0 hne (.slice (some ⟨w4.heap.size,0,none⟩) 2 2))
 have HX5:=zF (blk_far (p:=⟨pB,5,none⟩) (blk_alloc HM4.out.hX (.cells #[.int .i64 3,.int .i64 1] 3)) (blk_ne HM4.out.hX HM4.out.hP (by decide)) (.slice (some ⟨w4.heap.size,0,none⟩) 2 2))
 have HF5:=zF (blk_far (p:=⟨pB,5,none⟩) (blk_alloc HM4.out.hF (.cells #[.int .i64 3,.int .i64 1] 3)) (blk_ne HM4.out.hF HM4.out.hP (by decide)) (.slice (some ⟨w4.heap.size,0,none⟩) 2 2))
 have HM5:=zF (blk_far (p:=⟨pB,5,none⟩) (blk_alloc HM4.out.hM (.cells #[.int .i64 3,.int .i64 1] 3)) (blk_ne HM4.out.hM HM4.out.hP (by decide)) (.slice (some ⟨w4.heap.size,0,none⟩) 2 2))
 have HP5:=zF (blk_put hPa 5 (.slice (some ⟨w4.heap.size,0,none⟩) 2 2) rfl)
 have HRc5:=zF (Kd.R_set (Kd.R_alloc HRc.out (.cells #[.int .i64 3,.int .i64 1] 3)) hPa (by decide) 5 (.slice (some ⟨w4.heap.size,0,none⟩) 2 2))
 have HSd5:=zF (Kd.S_set (Kd.S_alloc HSd.out (.cells #[.int .i64 3,.int .i64 1] 3)) hPa (by decide) 5 (.slice (some ⟨w4.heap.size,0,none⟩) 2 2))
 have HB25:Aside0 (Below w2.heap.size w2 ((w4.alloc (.cells #[.int .i64 3,.int .i64 1] 3)).setCell ⟨pB,5,none⟩ (.slice (some ⟨w4.heap.size,0,none⟩) 2 2))):=⟨(below_alloc HB24.out _).setCell HpB.out _⟩
 generalize (w4.alloc (.cells #[.int .i64 3,.int .i64 1] 3)).setCell ⟨pB,5,none⟩ (.slice (some ⟨w4.heap.size,0,none⟩) 2 2)=w5 at HQ5 HX5 HF5 HM5 HP5 HRc5 HSd5 HB25 ⊢
 clear hq0 hPa hne HRc HSd HM4 HB24 HPl HpB
 have HCc:=zF (Kd.R_reads' HRc5.out).2.2
 have HCd:=zF (Kd.S_reads' HSd5.out).2.2
 have HcF:Aside0 (Kd.C k53 w5 (some ⟨fB,0,none⟩) 2 hF2):=⟨C_fl2 ⟨1,2⟩ ⟨3,2⟩ HF5.out⟩
 have HcP:Aside0 (Kd.C k41 w5 (some ⟨pB,0,none⟩) 2 hP3):=⟨C_pa2 ⟨5,1,[3]⟩ ⟨6,0,[3,1]⟩ (C_in1 3 HX5.out) (Nat.le_refl _) (C_in2 3 1 HQ5.out) (Nat.le_refl _) HP5.out⟩
 clear HRc5 HSd5 HQ5 HX5 HF5 HP5
 have x0:w5.cell? ⟨mB,0,none⟩=some (.slice (some ⟨fB,0,none⟩) 2 2):=(blk_cell HM5.out 0).trans rfl
 have x1:w5.cell? ⟨mB,1,none⟩=some (.slice (some ⟨pB,0,none⟩) 2 2):=(blk_cell HM5.out 1).trans rfl
 have HS:=zF (solve2 (F:=hF2) (P:=hP3) rfl rfl ex3 HcF.out HcP.out)
 go_upto_region 7 with (go_at_call 18;(with_reducible refine HS.out.mono ?_);rintro e w6 ⟨ve,vf,rfl,ho0,ho1,hb⟩;have HRe:=zF ho0;have HSf:=zF ho1;have HB56:=zF (below_then (below_alloc (Below.refl w5.heap.size w5) _) (by simp) hb);clear ho0 ho1 hb)
 clear x0 x1 HS
 obtain ⟨Ae,ce,ee,hle,hCe⟩:=Kd.R_reads HRe.out
 obtain ⟨Af,cf,ef,hlf,hCf⟩:=Kd.S_reads HSf.out
 subst ee ef
 have HCe:=zF hCe
 have HCf:=zF hCf
 have HLe:=zF hle
 have HLf:=zF hlf
 clear hCe hCf hle hlf HRe HSf
 have HM6:=zF (blk_below HM5.out HB56.out)
 have HcF6:=zF (Kd.C_below HcF.out HB56.out)
 have HcP6:=zF (Kd.C_below HcP.out HB56.out)
 clear HM5 HcF HcP
 have x0:w6.cell? ⟨mB,0,none⟩=some (.slice (some ⟨fB,0,none⟩) 2 2):=(blk_cell HM6.out 0).trans rfl
 have x1:w6.cell? ⟨mB,1,none⟩=some (.slice (some ⟨pB,0,none⟩) 2 2):=(blk_cell HM6.out 1).trans rfl
 have HS:=zF (solve2 (F:=hF2) (P:=hP3) rfl rfl ex4 HcF6.out HcP6.out)
 go_upto_region 8 with (go_at_call 18;(with_reducible refine HS.out.mono ?_);rintro e w7 ⟨vg,vh,rfl,ho0,ho1,hb⟩;have HB67:=zF (below_then (below_alloc (Below.refl w6.heap.size w6) _) (by simp) hb);clear ho0 ho1 hb)
 clear x0 x1 HS HM6 HcF6 HcP6
 have HB57:=zF (below_step HB56.out HB67.out)
 have HB27:=zF (below_step HB25.out HB57.out)
 have HBw:=zF (below_step HB2.out HB27.out)
 have ka:=zF (Kd.C_below HCa.out HB27.out)
 have kb:=zF (Kd.C_below HCb.out HB27.out)
 have kc:=zF (Kd.C_below HCc.out HB57.out)
 have kd:=zF (Kd.C_below HCd.out HB57.out)
 have ke:=zF (Kd.C_below HCe.out HB67.out)
 have kf:=zF (Kd.C_below HCf.out HB67.out)
 clear HCa HCb HCc HCd HCe HCf HB2 HB25 HB56 HB67 HB57 HB27
 have HA:=zF (sm_calls (W:=w7.alloc (.cells #[.int .i64 5,.int .i64 1,.int .i64 2,.int .i64 6,.int .i64 2,.int .i64 1] 39)) (l0:=hM1) ⟨5,1,2⟩ ⟨6,2,1⟩ (Kd.C_alloc ka.out _) HLa.out (C_mv2 ⟨5,1,2⟩ ⟨6,2,1⟩ (blk_new w7 _)) (Nat.le_refl _) e1)
 have HA2:=zF (fun (W:World) (hb:Below w7.heap.size w7 W)=>sr_calls (W:=W.alloc (.cells #[.bool false,.slice Aa hM1.length ca] 47)) ⟨false,hM1⟩ ⟨false,hM1⟩ (Kd.C_alloc (Kd.C_below kb.out hb) _) HLb.out (C_ri1 ⟨false,hM1⟩ (Kd.C_alloc (Kd.C_below ka.out hb) _) HLa.out (blk_new W _)) (Nat.le_refl _) e3)
 go_upto_region 9 with (first
  | (go_at_call 20;(with_reducible refine HA.out.mono ?_);rintro e w8 ⟨rfl,hb⟩;have HB8:=zF (below_then (below_alloc (Below.refl w7.heap.size w7) _) (by simp) hb);clear hb)
  | (go_at_call 21;(with_reducible refine (HA2.out _ HB8.out).mono ?_);rintro e w9 ⟨rfl,hb⟩;have HB9:=zF (below_then (below_alloc HB8.out _) (by have:=HB8.out.size;simp;omega) hb);clear hb))
 clear HA HA2 HB8 ka kb
 go_upto_region 10 with (fail)
 have hv:=blk_new w9 (.cells #[.int .i64 5,.int .i64 1,.int .i64 3,.int .i64 6,.int .i64 0,.int .i64 1] 39)
 have HB7m:=zF (below_alloc HB9.out (.cells #[.int .i64 5,.int .i64 1,.int .i64 3,.int .i64 6,.int .i64 0,.int .i64 1] 39))
 have HCm:=zF (C_mv2 ⟨5,1,3⟩ ⟨6,0,1⟩ hv)
 generalize w9.alloc (.cells #[.int .i64 5,.int .i64 1,.int .i64 3,.int .i64 6,.int .i64 0,.int .i64 1] 39)=wM at hv HB7m HCm ⊢
 clear hv HB9
 generalize w9.heap.size=bv at HCm ⊢
 have h1:=zF (fun (W:World) (hb:Below wM.heap.size wM W)=>sm_calls (W:=W) (l0:=hM2) ⟨5,1,3⟩ ⟨6,0,1⟩ (Kd.C_below (Kd.C_below kc.out HB7m.out) hb) HLc.out (Kd.C_below HCm.out hb) (Nat.le_refl _) e2)
 have h2:=zF (fun (W:World) (hb:Below wM.heap.size wM W)=>sr_calls (W:=W.alloc (.cells #[.bool true,.slice (some ⟨bv,0,none⟩) 2 2] 47)) ⟨true,hM2⟩ ⟨true,hM2⟩ (Kd.C_alloc (Kd.C_below (Kd.C_below kd.out HB7m.out) hb) _) HLd.out (C_ri1 ⟨true,hM2⟩ (Kd.C_alloc (Kd.C_below HCm.out hb) _) (Nat.le_refl _) (blk_new W _)) (Nat.le_refl _) e4)
 have h3:=zF (fun (W:World) (hb:Below wM.heap.size wM W)=>sm_calls (W:=W) (l0:=hM2) ⟨5,1,3⟩ ⟨6,0,1⟩ (Kd.C_below (Kd.C_below ke.out HB7m.out) hb) HLe.out (Kd.C_below HCm.out hb) (Nat.le_refl _) e2)
 have h4:=zF (fun (W:World) (hb:Below wM.heap.size wM W)=>sr_calls (W:=W) ⟨true,hM2⟩ ⟨true,hM2⟩ (Kd.C_below (Kd.C_below kf.out HB7m.out) hb) HLf.out (Kd.C_below (Kd.C_below kd.out HB7m.out) hb) HLd.out e4)
 have HBm:=zF (below_step HBw.out HB7m.out)
 have HBn:=zF (Below.refl wM.heap.size wM)
 clear kc kd ke kf HCm HB7m HBw
 have tok1:True:=trivial
 have tok2:True:=trivial
 go_wp2_with (first
  | (have _t:=tok1;clear _t;go_at_call 20;(with_reducible refine (h1.out _ HBn.out).mono ?_);rintro e w10 ⟨rfl,hb⟩;replace HBn:=zF (below_step HBn.out hb);clear hb tok1)
  | (have _t:=tok2;clear _t;go_at_call 21;(with_reducible refine (h2.out _ HBn.out).mono ?_);rintro e w11 ⟨rfl,hb⟩;replace HBn:=zF (below_step HBn.out (below_then (below_alloc (Below.refl _ _) _) (by simp) hb));clear hb tok2)
  | (go_at_call 20;(with_reducible refine (h3.out _ HBn.out).mono ?_);rintro e w12 ⟨rfl,hb⟩;replace HBn:=zF (below_step HBn.out hb);clear hb)
  | (go_at_call 21;(with_reducible refine (h4.out _ HBn.out).mono ?_);rintro e w13 ⟨rfl,hb⟩;replace HBn:=zF (below_step HBn.out hb);clear hb))
 go_ret
 exact ⟨rfl,below_step HBm.out HBn.out⟩
end Go.Proofs.Ytjgnkhfgmpaljaa.P
namespace Go.Proofs.Ytjgnkhfgmpaljaa.P
open Go.RowKit Go.Proofs.YtjgnkhfgmpaljaaW.PrintWords Go.Proofs.YtjgnkhfgmpaljaaW.PrintLast Go.Proofs.YtjgnkhfgmpaljaaW.PrintMore
attribute [local go_sem] max2_int min2_int max_two min_two max_three min_three max_four min_four   -- for this text's walks alone
set_option linter.unusedVariables false
set_option linter.unusedSimpArgs false

mutual
def cohousinglaw24_TradeFirst.j0:Nat→List Int→Bool→Bool→List (S53)→List (S41)→Option (Bool)
 | 0,_,_,_,_,_=>none
 | k + 1,x1,x5,x23,x405000,x405001=>if x23=true then (some x5) else ((cohousinglaw24_solved.f k x405000 x405001 x1).bind fun bt407=>(if bt407.2=true then (if 0 < (x1.length:Int) then (if 0≤(rd x1 0) then (if (rd x1 0) < (x405001.length:Int) then ((cohousingref23_Ranking.f k ((rd_T41 x405001 (rd x1 0)).f0) ((rd_T41 x405001 (rd x1 0)).f1) ((rd_T41 x405001 (rd x1 0)).f2)).bind fun t413=>(cohousinglaw24_TradeFirst.l0 k x5 bt407.1 (rd x1 0) t413 x405000 (x405000.length:Int) 0 x405000 x405001)) else (none)) else (none)) else (none)) else (some false)))
def cohousinglaw24_TradeFirst.l0:Nat→Bool→List Int→Int→List Int→List (S53)→Int→Int→List (S53)→List (S41)→Option (Bool)
 | 0,_,_,_,_,_,_,_,_,_=>none
 | k + 1,x5,x6,x8,x9,x43,x44,x45,x405000,x405001=>if x45 < x44 then (if 0≤x45 then (if x45 < (x43.length:Int) then ((cohousingref23_In.f k x9 ((rd_T53 x43 x45).f0)).bind fun t418=>((cohousinglaw24_occupied.f k x405000 x405001 ((rd_T53 x43 x45).f0)).bind fun t419=>(if t419=true then (cohousinglaw24_TradeFirst.l0 k x5 x6 x8 x9 x43 x44 (wrap64 (x45 + 1)) x405000 x405001) else (if t418 ≥ 0 then (if 0≤x8 then (if x8 < (x6.length:Int) then ((cohousingref23_In.f k x9 (rd x6 x8)).bind fun t421=>(if t418 < t421 then (some false) else (cohousinglaw24_TradeFirst.l0 k x5 x6 x8 x9 x43 x44 (wrap64 (x45 + 1)) x405000 x405001))) else (none)) else (none)) else (cohousinglaw24_TradeFirst.l0 k x5 x6 x8 x9 x43 x44 (wrap64 (x45 + 1)) x405000 x405001))))) else (none)) else (none)) else (some x5)
end
def cohousinglaw24_TradeFirst.f (k:Nat) (l0_0:List (S53)) (l0_1:List (S41)) (l1:List Int):Option (Bool):=(cohousinglaw24_head.f).bind fun t405=>((cohousinglaw24_usable.f k l0_0 l0_1 l1).bind fun t406=>(if t406=true then (cohousinglaw24_TradeFirst.j0 k l1 t405 ((l0_1.length:Int) == 0) l0_0 l0_1) else (cohousinglaw24_TradeFirst.j0 k l1 t405 true l0_0 l0_1)))
theorem cohousinglaw24_TradeFirst.mono_l:∀ k,(∀ y0 y1 y2 y3 y4,LeO (cohousinglaw24_TradeFirst.j0 k y0 y1 y2 y3 y4) (cohousinglaw24_TradeFirst.j0 (k + 1) y0 y1 y2 y3 y4))∧(∀ y0 y1 y2 y3 y4 y5 y6 y7 y8,LeO (cohousinglaw24_TradeFirst.l0 k y0 y1 y2 y3 y4 y5 y6 y7 y8) (cohousinglaw24_TradeFirst.l0 (k + 1) y0 y1 y2 y3 y4 y5 y6 y7 y8))
 | 0=>⟨fun _ _ _ _ _ r h=>by simp [cohousinglaw24_TradeFirst.j0] at h,fun _ _ _ _ _ _ _ _ _ r h=>by simp [cohousinglaw24_TradeFirst.l0] at h⟩
 | k + 1=>by
  obtain ⟨ih0,ih1⟩:=cohousinglaw24_TradeFirst.mono_l k
  refine ⟨?_,?_⟩
  ·
   intro y0 y1 y2 y3 y4
   unfold cohousinglaw24_TradeFirst.j0
   repeat' first
   | (with_reducible exact ih0 _ _ _ _ _)
   | (with_reducible exact ih1 _ _ _ _ _ _ _ _ _)
   | (with_reducible exact cohousinglaw24_occupied.mono _ _ _ _)
   | (with_reducible exact cohousinglaw24_solved.mono _ _ _ _)
   | (with_reducible exact cohousinglaw24_usable.mono _ _ _ _)
   | (with_reducible exact cohousingref23_In.mono _ _ _)
   | (with_reducible exact cohousingref23_Ranking.mono _ _ _ _)
   | (with_reducible exact LeO.refl _)
   | (with_reducible exact LeO.none _)
   | (with_reducible refine LeO.ite ?_ ?_)
   | (with_reducible refine LeO.bind ?_ (fun _=>?_))
   | exact ih0 _ _ _ _ _
   | exact ih1 _ _ _ _ _ _ _ _ _
   | exact cohousinglaw24_occupied.mono _ _ _ _
   | exact cohousinglaw24_solved.mono _ _ _ _
   | exact cohousinglaw24_usable.mono _ _ _ _
   | exact cohousingref23_In.mono _ _ _
   | exact cohousingref23_Ranking.mono _ _ _ _
   | exact LeO.none _
   | refine LeO.ite ?_ ?_
   | refine LeO.bind ?_ (fun _=>?_)
  ·
   intro y0 y1 y2 y3 y4 y5 y6 y7 y8
   unfold cohousinglaw24_TradeFirst.l0
   repeat' first
   | (with_reducible exact ih0 _ _ _ _ _)
   | (with_reducible exact ih1 _ _ _ _ _ _ _ _ _)
   | (with_reducible exact cohousinglaw24_occupied.mono _ _ _ _)
   | (with_reducible exact cohousinglaw24_solved.mono _ _ _ _)
   | (with_reducible exact cohousinglaw24_usable.mono _ _ _ _)
   | (with_reducible exact cohousingref23_In.mono _ _ _)
   | (with_reducible exact cohousingref23_Ranking.mono _ _ _ _)
   | (with_reducible exact LeO.refl _)
   | (with_reducible exact LeO.none _)
   | (with_reducible refine LeO.ite ?_ ?_)
   | (with_reducible refine LeO.bind ?_ (fun _=>?_))
   | exact ih0 _ _ _ _ _
   | exact ih1 _ _ _ _ _ _ _ _ _
   | exact cohousinglaw24_occupied.mono _ _ _ _
   | exact cohousinglaw24_solved.mono _ _ _ _
   | exact cohousinglaw24_usable.mono _ _ _ _
   | exact cohousingref23_In.mono _ _ _
   | exact cohousingref23_Ranking.mono _ _ _ _
   | exact LeO.none _
   | refine LeO.ite ?_ ?_
   | refine LeO.bind ?_ (fun _=>?_)
theorem cohousinglaw24_TradeFirst.mono:∀ a0 a1 a2 k,LeO (cohousinglaw24_TradeFirst.f k a0 a1 a2) (cohousinglaw24_TradeFirst.f (k + 1) a0 a1 a2):=by
 intro a0 a1 a2 k
 obtain ⟨ih0,ih1⟩:=cohousinglaw24_TradeFirst.mono_l k
 unfold cohousinglaw24_TradeFirst.f
 repeat' first
   | (with_reducible exact ih0 _ _ _ _ _)
   | (with_reducible exact ih1 _ _ _ _ _ _ _ _ _)
   | (with_reducible exact cohousinglaw24_occupied.mono _ _ _ _)
   | (with_reducible exact cohousinglaw24_solved.mono _ _ _ _)
   | (with_reducible exact cohousinglaw24_usable.mono _ _ _ _)
   | (with_reducible exact cohousingref23_In.mono _ _ _)
   | (with_reducible exact cohousingref23_Ranking.mono _ _ _ _)
   | (with_reducible exact LeO.refl _)
   | (with_reducible exact LeO.none _)
   | (with_reducible refine LeO.ite ?_ ?_)
   | (with_reducible refine LeO.bind ?_ (fun _=>?_))
   | exact ih0 _ _ _ _ _
   | exact ih1 _ _ _ _ _ _ _ _ _
   | exact cohousinglaw24_occupied.mono _ _ _ _
   | exact cohousinglaw24_solved.mono _ _ _ _
   | exact cohousinglaw24_usable.mono _ _ _ _
   | exact cohousingref23_In.mono _ _ _
   | exact cohousingref23_Ranking.mono _ _ _ _
   | exact LeO.none _
   | refine LeO.ite ?_ ?_
   | refine LeO.bind ?_ (fun _=>?_)
end Go.Proofs.Ytjgnkhfgmpaljaa.P
namespace Go.Proofs.Ytjgnkhfgmpaljaa.P
open Go.RowKit Go.Proofs.YtjgnkhfgmpaljaaW.PrintWords Go.Proofs.YtjgnkhfgmpaljaaW.PrintLast Go.Proofs.YtjgnkhfgmpaljaaW.PrintMore Go.Proofs.Ytjgnkhfgmpaljaa.M
open Go.Proofs.Ytjgnkhfgmpaljaa
set_option linter.unusedVariables false
set_option linter.unusedSimpArgs false
/-- What each party gets. -/
theorem gets {P:List S41} {ord:List Int} (h:Fine P ord):(finalG P ord).tos.length=P.length∧∀ p:Nat,p < P.length→(T.final (datG P ord)).A p=some (rd (finalG P ord).tos (p:Int))∧rd (finalG P ord).tos (p:Int) ∈ rankL (ownP P p) (wantsP P p):=by
  have hB:=(final_bind h).2
  have hwf:=fine_wf h
  obtain ⟨hI,hall,_,_⟩:=T.out_inv hwf (T.out_final hwf) (T.inv0 hwf)
  refine ⟨hB.tl,fun p hp=>?_⟩
  have h1:=hB.tos p hp
  cases ha:(T.final (datG P ord)).A p with
  | none=>exact absurd ha (hall p hp)
  | some f =>
    rw [ha] at h1
    have h1:rd (finalG P ord).tos (p:Int)=f:=h1
    rw [h1]
    exact ⟨rfl,hI.rk p f hp ha⟩
end Go.Proofs.Ytjgnkhfgmpaljaa.P
