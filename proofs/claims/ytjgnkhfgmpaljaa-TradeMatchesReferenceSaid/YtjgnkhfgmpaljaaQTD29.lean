/- Lemmas, readings of functions as plain Lean functions and contracts of functions of the program, for the claimed theorem; each one's conditions stand in its statement. -/
import Derived.Test.YtjgnkhfgmpaljaaQTD24
import Derived.Test.YtjgnkhfgmpaljaaQTD28
import Derived.Test.YtjgnkhfgmpaljaaQTD7
namespace Go.Proofs.Ytjgnkhfgmpaljaa.P
open Go.RowKit Go.Proofs.YtjgnkhfgmpaljaaW.PrintWords Go.Proofs.YtjgnkhfgmpaljaaW.PrintLast Go.Proofs.YtjgnkhfgmpaljaaW.PrintMore Go.Proofs.Ytjgnkhfgmpaljaa.M
open Go.Proofs.Ytjgnkhfgmpaljaa
set_option linter.unusedVariables false
set_option linter.unusedSimpArgs false
theorem sameMoves_refl (l:List S39) (hl:l.length≤1000000):Ev (fun k=>cohousingref24_SameMoves.f k l l) true:=by
  refine evPos rfl ?_
  have h:∀ d i:Nat,d=l.length - i→i≤l.length→Ev (fun k=>cohousingref24_SameMoves.l0 k l l (i:Int)) true:=by
    intro d
    induction d with
    | zero =>
      intro i hd hi
      exact Ev.step (fun k=>by rw [cohousingref24_SameMoves.l0]) (evNeg (by omega) (Ev.now _))
    | succ d ih =>
      intro i hd hi
      have hlt:i < l.length:=by omega
      refine Ev.step (fun k=>by rw [cohousingref24_SameMoves.l0]) (evPos (by omega) (evPos (by omega) (evPos (by omega) (evNeg (by simp) ?_))))
      rw [wrap_succ hlt (by omega)]
      exact ih (i + 1) (by omega) (by omega)
  exact h l.length 0 rfl (Nat.zero_le _)
theorem sameRings_refl (l:List S47) (hl:l.length≤1000000) (hr:∀ r ∈ l,r.f1.length≤1000000):Ev (fun k=>cohousingref24_SameRings.f k l l) true:=by
  refine evPos rfl ?_
  have h:∀ d i:Nat,d=l.length - i→i≤l.length→Ev (fun k=>cohousingref24_SameRings.l0 k l l (i:Int)) true:=by
    intro d
    induction d with
    | zero =>
      intro i hd hi
      exact Ev.step (fun k=>by rw [cohousingref24_SameRings.l0]) (evNeg (by omega) (Ev.now _))
    | succ d ih =>
      intro i hd hi
      have hlt:i < l.length:=by omega
      refine Ev.step (fun k=>by rw [cohousingref24_SameRings.l0]) (evPos (by omega) (evPos (by omega) (evPos (by omega) (evNeg (by simp) (Ev.bind (sameMoves_refl _ (hr _ (rd47_mem hlt))) (evPos rfl ?_))))))
      rw [wrap_succ hlt (by omega)]
      exact ih (i + 1) (by omega) (by omega)
  exact h l.length 0 rfl (Nat.zero_le _)
theorem solves {F:List S53} {P:List S41} {ord:List Int} (hf:fewR F P=true) (hol:ord.length≤30) (hF:∀ x ∈ F,okI x.f0∧okI x.f1) (hP:∀ p ∈ P,okI p.f1∧∀ f ∈ p.f2,okI f) :
    ∃ mv rg er,trade_Solve.f F P ord=some (mv,rg,er)∧(∀ (A0 A1 A2:Option Addr) (c0 c1 c2:Nat) (w:World),Kd.C k53 w A0 F.length F→F.length≤c0→Kd.C k41 w A1 P.length P→P.length≤c1→(Kd.int .i64).C w A2 ord.length ord→ord.length≤c2 →
      Calls Try.prog 19 #[.agg #[.slice A0 F.length c0,.slice A1 P.length c1],.slice A2 ord.length c2] w (SolvePost w mv rg er))∧mv.length≤1000000∧rg.length≤1000000∧∀ r ∈ rg,r.f1.length≤1000000:=by
  obtain ⟨h4,h5,h6⟩:=fewR_iff.1 hf
  have hok:∀ x ∈ P,x.f2.length≤64∧okI x.f1∧∀ f ∈ x.f2,okI f:=fun x hx=>⟨by have:=h6 x hx;omega,hP x hx⟩
  have hi:okIn F P ord=true:=okIn_iff.2 ⟨by omega,by omega,hF,hok⟩
  have hw:∀ p ∈ P,p.f2.length≤1000000:=fun p hp=>by have:=h6 p hp;omega
  cases hb:okB F P ord with
  | false =>
    refine ⟨[],[],1,?_,fun A0 A1 A2 c0 c1 c2 w r0 l0 r1 l1 r2 l2=>rsolve_no A0 A1 A2 c0 c1 c2 F P ord w r0 l0 r1 l1 r2 l2 (by omega) (by omega) hw (by omega) hb,by simp,by simp,fun r hr=>by cases hr⟩
    unfold trade_Solve.f solveG
    rw [if_pos hi,hb,if_neg (by decide)]
  | true =>
    have hfine:=fine_of hb (by omega) hok
    have hrk:=rings_ok2 hfine (T.ri_final (fine_wf hfine))
    rw [← rings_final hfine] at hrk
    refine ⟨outM P (finalG P ord).tos P.length,(finalG P ord).rg,0,?_,fun A0 A1 A2 c0 c1 c2 w r0 l0 r1 l1 r2 l2=>rsolve_yes A0 A1 A2 c0 c1 c2 F P ord w r0 l0 r1 l1 r2 l2 (by omega) (by omega) hw (by omega) hb hfine,by rw [outM_len];omega,by have:=hrk.1;omega,fun r hr=>by have:=(hrk.2 r hr).2;omega⟩
    unfold trade_Solve.f solveG
    rw [if_pos hi,if_pos hb]
end Go.Proofs.Ytjgnkhfgmpaljaa.P
