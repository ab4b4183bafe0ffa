/- Lemmas, readings of functions as plain Lean functions and contracts of functions of the program, for the claimed theorem; each one's conditions stand in its statement. -/
import Derived.Test.YtjgnkhfgmpaljaaQTD30
import Derived.Test.YtjgnkhfgmpaljaaQTD7
namespace Go.Proofs.Ytjgnkhfgmpaljaa.P
set_option linter.unusedSimpArgs false
open Go.RowKit Go.Proofs.YtjgnkhfgmpaljaaW.PrintWords Go.Proofs.Ytjgnkhfgmpaljaa.M
set_option linter.unusedVariables false
def wfI (x:Int):Prop:=(Lit.int .i64 x).wf=true
def wf53 (x:S53):Prop:=wfI x.f0∧wfI x.f1
def wfL (l:List Int):Prop:=l.length≤maxLen∧∀ x ∈ l,wfI x
def wf41 (x:S41):Prop:=wfI x.f0∧wfI x.f1∧wfL x.f2
theorem opens_T26:Opens Try.prog 26 (Kd.slice 3 (Kd.int .i64)) wfL:=opens_slice Try.underlying26 (opens_int Try.underlying3) (by kernel_rfl)
theorem opens_T53:Opens Try.prog 53 k53 wf53 :=
  opens_struct (stop:=2) Try.underlying53 (by kernel_rfl) (opensF_cons (opens_int Try.underlying3) rfl (by kernel_rfl) (opensF_one (opens_int Try.underlying3) rfl (by kernel_rfl)))
    (fun x:S53=>(x.f0,x.f1)) (fun y=>⟨y.1,y.2⟩) (fun _=>rfl)
theorem opens_T22:Opens Try.prog 22 (Kd.slice 53 k53) (fun l=>l.length≤maxLen∧∀ x ∈ l,wf53 x):=opens_slice Try.underlying22 opens_T53 (by kernel_rfl)
theorem opens_T41:Opens Try.prog 41 k41 wf41 :=
  opens_struct (stop:=3) Try.underlying41 (by kernel_rfl) (opensF_cons (opens_int Try.underlying3) rfl (by kernel_rfl) (opensF_cons (opens_int Try.underlying3) rfl (by kernel_rfl) (opensF_one opens_T26 rfl (by kernel_rfl))))
    (fun x:S41=>(x.f0,x.f1,x.f2)) (fun y=>⟨y.1,y.2.1,y.2.2⟩) (fun _=>rfl)
theorem opens_T23:Opens Try.prog 23 (Kd.slice 41 k41) (fun l=>l.length≤maxLen∧∀ x ∈ l,wf41 x):=opens_slice Try.underlying23 opens_T41 (by kernel_rfl)
def wf25 (x:S25):Prop:=(x.f0.length≤maxLen∧∀ f ∈ x.f0,wf53 f)∧(x.f1.length≤maxLen∧∀ f ∈ x.f1,wf41 f)
theorem opens_T25:Opens Try.prog 25 k25 wf25 :=
  opens_struct (stop:=2) Try.underlying25 (by kernel_rfl) (opensF_cons opens_T22 rfl (by kernel_rfl) (opensF_one opens_T23 rfl (by kernel_rfl)))
    (fun x:S25=>(x.f0,x.f1)) (fun y=>⟨y.1,y.2⟩) (fun _=>rfl)
end Go.Proofs.Ytjgnkhfgmpaljaa.P
