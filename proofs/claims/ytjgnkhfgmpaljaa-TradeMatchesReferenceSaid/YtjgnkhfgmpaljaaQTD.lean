/- The row of TradeMatchesReference: whatever the input, the law returns true and leaves its arguments as they were. No condition. -/
import Derived.Test.YtjgnkhfgmpaljaaRows
import Derived.Test.YtjgnkhfgmpaljaaQTD33
import Derived.Test.YtjgnkhfgmpaljaaQTD32
import Derived.WalkKit
import Derived.ProofKit
import Derived.OpenShut
import Derived.ShutString
import Derived.ChangeOld
import Derived.Below
import Derived.SizedLaws
import Derived.Test.YtjgnkhfgmpaljaaQTD34
namespace Go.Proofs.Ytjgnkhfgmpaljaa.tradeMatchesReference
set_option linter.unusedSimpArgs false
open Go.ChangeShapes Go.WideShapes Go.ChangeAt Go.RowKit
open Go.ChangeMaps (open_string shut_string)
open Go.Proofs.YtjgnkhfgmpaljaaW.PrintWords Go.Proofs.Ytjgnkhfgmpaljaa.P Go.Proofs.Ytjgnkhfgmpaljaa.M
set_option linter.unusedVariables false
theorem own:ownKnob Try.prog.godebug=none:=by kernel_rfl
theorem laidOut:laidOutB Try.prog=true:=by kernel_rfl
set_option maxRecDepth 100000 in
theorem lifted (os:Os) (started:os.Started) (H:Type) (enc:TypeId × Value→H) :
    ReturnsInHanded {} Try.checked os 3 .any (Rows.tradeMatchesReferenceSpec.pre6 enc Try.prog Try.f3 Rows.tradeMatchesReferenceRow.domain false) (Rows.tradeMatchesReferenceSpec.post enc Try.prog Try.f3 false true false false):=by
  refine returnsInHanded_of_change_sized (C:=Try.checked) own started (by kernel_rfl) Try.func3
    (ChangeSpec.witness6 (enc:=enc) (C:=Try.checked) false ⟨#[],#[.agg #[.slice none 0 0,.slice none 0 0],.slice none 0 0],[]⟩ 8 (by kernel_rfl) (by kernel_rfl) (by kernel_rfl) (by kernel_rfl)) ?_
  intro W base args ds gs before hval0 hW hcnd hsz0 _
  have hval:∀ (j:Nat) t v,Try.f3.params[j]? = some t→args[j]? = some v→Value.okWide Try.prog W .any base t v:=hval0
  have hW':=hW
  obtain ⟨p,q,hA0,hV,rfl,hfz,hnd⟩:=hW
  have hA:DataW.TrodAll enc Try.prog W 0 (fun _=>true) true Try.f3.params.toList args.toList ds p:=hA0
  rw [Try.params3] at hA hval
  obtain ⟨v0,vs0,d0,ds0,p0,q0,hargs,rfl,rfl,h0,r0⟩:=trodAll_cons hA
  obtain ⟨v1,vs1,d1,ds1,p1,q1,rfl,rfl,rfl,h1,r1⟩:=trodAll_cons r0
  obtain ⟨rfl,rfl,rfl⟩:=trodAll_nil r1
  obtain rfl:args = #[v0,v1]:=by cases args;simp_all
  obtain ⟨rfl,rfl⟩:=trodVars_none hV
  have k0:=h0
  have lt0:∀ x ∈ p0,x.block < W.heap.size:=by obtain ⟨m,hm⟩:=k0;exact DataW.trod_lt m _ _ _ hm
  obtain ⟨cs0,rfl,_⟩:=okWide_struct Try.underlying25 (hval 0 25 v0 rfl rfl)
  obtain ⟨x0,hx0,w0⟩:=(opens_T25).arg_agg h0
  obtain ⟨A0a,c0a,A0b,c0b,e0,hc0a,hr0a,hc0b,hr0b⟩:=k25_open hx0
  obtain rfl:cs0 = #[.slice A0a x0.f0.length c0a,.slice A0b x0.f1.length c0b]:=Array.toList_inj.1 e0
  have k1:=h1
  have lt1:∀ x ∈ p1,x.block < W.heap.size:=by obtain ⟨m,hm⟩:=k1;exact DataW.trod_lt m _ _ _ hm
  obtain ⟨A1,len1,c1,rfl⟩:=okWide_slice Try.underlying26 (hval 1 26 v1 rfl rfl)
  obtain ⟨l1,rfl,hc1,hr1,w1⟩:=(opens_T26).arg_slice h1
  refine (cohousinglaw24_TradeMatchesReference.calls A0a c0a x0.f0 A0b c0b x0.f1 A1 c1 l1 W hr0a hc0a hr0b hc0b hr1 hc1 w0 w1).mono fun e W' ⟨he,bel⟩=>?_
  subst he
  exact ⟨_,rfl,_,_,_,[],_,[],hW',trodAll_mk1 (shut_bool Try.underlying4 _),(trodAll_cons_mk (Below.trod laidOut (by kernel_rfl) (zE (by kernel_rfl)) k0 bel lt0) (trodAll_cons_mk (Below.trod laidOut (by kernel_rfl) (zE (by kernel_rfl)) k1 bel lt1) trodAll_mk0)),rfl,bel.frame _,fun h=>by cases h⟩
theorem over:Rows.tradeMatchesReferenceRow.holds Try.pinned (OpenSpec.ofChange Rows.tradeMatchesReferenceSpec) :=
  OpenClaim.holds_of_wide 3 Try.f3 rfl rfl rfl rfl rfl rfl rfl ⟨rfl,rfl,rfl,rfl,rfl⟩ rfl rfl rfl rfl rfl (by kernel_rfl) Try.func3 (by kernel_rfl)
    (zE (by kernel_rfl)) (by unfold Func.isWrapper;first|(rw [if_pos (by decide +kernel)];kernel_rfl)|(rw [if_neg (by decide +kernel)];exact ⟨rfl,rfl⟩))
    (fun os started H enc _=>lifted os started H enc)
theorem proved:Rows.TradeMatchesReferenceSaid:=over
#print axioms proved
end Go.Proofs.Ytjgnkhfgmpaljaa.tradeMatchesReference
namespace Go.Proofs.Ytjgnkhfgmpaljaa
/-- The row, under a short name, for the claim. -/
theorem tradeMatchesReference_holds:Rows.TradeMatchesReferenceSaid:=tradeMatchesReference.proved
end Go.Proofs.Ytjgnkhfgmpaljaa
