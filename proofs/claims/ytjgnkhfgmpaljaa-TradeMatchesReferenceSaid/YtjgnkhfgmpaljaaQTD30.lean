/- Lemmas, readings of functions as plain Lean functions and contracts of functions of the program, for the claimed theorem; each one's conditions stand in its statement. -/
import Derived.Deep.Slices
import Derived.ProofKit
import Derived.Test.YtjgnkhfgmpaljaaQTD0
namespace Go.Proofs.Ytjgnkhfgmpaljaa.M
set_option linter.unusedSimpArgs false
open Go.ChangeShapes Go.WideShapes Go.Proofs.YtjgnkhfgmpaljaaW.PrintWords
set_option linter.unusedVariables false

/-- Whatever reads as a value of type t is told by the kind d, within wf. -/
def Opens {α:Type} (P:Program) (t:TypeId) (d:Kd α) (wf:α→Prop):Prop :=
  ∀ (H:Type) (enc:TypeId × Value→H) (w:World) (base:Nat) (sp:Nat→Bool) (held:Bool) (fuel:Nat) (cs:List Value) (x:DataW H × List MemPlace),
    DataW.trod enc P w base sp held fuel t cs=some x→∃ a,d.K w a cs∧wf a

section
variable {P:Program} {t e:TypeId}
theorem opens_int {k:IntKind} (ht:P.underlying t=some (.int k)):Opens P t (Kd.int k) (fun n=>(Lit.int k n).wf=true):=by
  intro H enc w base sp held fuel cs x h
  obtain ⟨n,rfl,_,hw⟩:=DataW.trod_int ht h
  exact ⟨n,rfl,hw⟩
/-- The elements of a slice that reads. -/
theorem opens_slice {α:Type} {d:Kd α} {wf:α→Prop} (ht:P.underlying t=some (.slice e)) (ho:Opens P e d wf) (hs:P.cellsOf e=d.sz) :
    Opens P t (Kd.slice e d) (fun l=>l.length≤maxLen∧∀ x ∈ l,wf x):=by
  intro H enc w base sp held fuel cs x h
  rcases Deep.open_slice ht h with ⟨rfl,rfl⟩|⟨a,len,cap,m,n,D,Pl,rfl,hb,hl,hc,hm,rfl,hx⟩
  · exact ⟨[],⟨none,0,rfl,Nat.le_refl _,rfl,by simp,fun h=>absurd h (by simp)⟩,by simp [maxLen],fun x hx=>by cases hx⟩
  · have hlm:len≤m:=by rw [hm];split <;> omega
    have hel:∀ i,i < len→∃ a',∃ c,d.K w a' c∧wf a'∧∀ j u,c[j]? = some u→w.cell? (a.add (i * d.sz + j))=some u:=by
      intro i hi
      obtain ⟨cs',h1,h2⟩:=hx i (by omega)
      obtain ⟨a',hK,hw⟩:=ho H enc w base sp held n cs' _ h2
      refine ⟨a',cs',hK,hw,fun j u hj=>?_⟩
      obtain ⟨_,h3,h4⟩:=World.cells?_some h1
      have hjl:j < cs'.length:=(List.getElem?_eq_some_iff.1 hj).1
      have h5:=h4 j (by omega)
      rw [Deep.add_add,hs] at h5
      rw [h5,hj]
    have hex:∃ xs:List α,xs.length=len∧∀ i y,xs[i]? = some y→∃ c,d.K w y c∧wf y∧∀ j u,c[j]? = some u→w.cell? (a.add (i * d.sz + j))=some u:=by
      clear hx hlm hm hl h
      induction len with
      | zero=>exact ⟨[],rfl,fun i y h=>by simp at h⟩
      | succ n ih =>
        obtain ⟨xs,hxl,hxs⟩:=ih (fun i hi=>hel i (by omega))
        obtain ⟨y,c,h1,h2,h3⟩:=hel n (by omega)
        refine ⟨xs ++ [y],by simp [hxl],fun i z hz=>?_⟩
        by_cases hi:i < xs.length
        · rw [List.getElem?_append_left hi] at hz
          exact hxs i z hz
        · have hil:i < (xs ++ [y]).length:=(List.getElem?_eq_some_iff.1 hz).1
          rw [List.length_append,List.length_singleton] at hil
          obtain rfl:i=xs.length:=by omega
          rw [List.getElem?_append_right (Nat.le_refl _),Nat.sub_self] at hz
          obtain rfl:y=z:=by simpa using hz
          exact ⟨c,h1,h2,by rw [hxl];exact h3⟩
    obtain ⟨xs,hxl,hxs⟩:=hex
    subst hxl
    refine ⟨xs,⟨some a,cap,rfl,hl,rfl,by unfold maxLen at hc;omega,fun _=>⟨a,rfl,fun j p hj=>?_⟩⟩,by omega,fun x hx=>?_⟩
    · obtain ⟨c,h1,_,h3⟩:=hxs j p hj
      exact ⟨c,d.K_len h1,h1,h3⟩
    · obtain ⟨i,hi⟩:=List.mem_iff_getElem?.1 hx
      obtain ⟨c,_,h2,_⟩:=hxs i x hi
      exact h2

/-- The fields of a struct from cell 'off' on. -/
def OpensF {α:Type} (P:Program) (fs:List Field) (off stop:Nat) (d:Kd α) (wf:α→Prop):Prop :=
  ∀ (H:Type) (enc:TypeId × Value→H) (w:World) (base:Nat) (sp:Nat→Bool) (held:Bool) (n:Nat) (cs:List Value),
    cs.length=stop→(∀ f,f ∈ fs→∃ y,DataW.trod enc P w base sp held n f.type ((cs.drop f.offset).take (P.cellsOf f.type))=some y)→∃ a,d.K w a (cs.drop off)∧wf a
theorem opensF_one {α:Type} {d:Kd α} {wf:α→Prop} {f:Field} {off stop:Nat} (ho:Opens P f.type d wf) (h1:f.offset=off) (h2:off + P.cellsOf f.type=stop):OpensF P [f] off stop d wf:=by
  intro H enc w base sp held n cs hl hf
  obtain ⟨y,hy⟩:=hf f (by simp)
  rw [h1] at hy
  rw [List.take_of_length_le (by simp;omega)] at hy
  exact ho H enc w base sp held n _ _ hy
theorem opensF_cons {α β:Type} {d:Kd α} {d':Kd β} {wf:α→Prop} {wf':β→Prop} {f:Field} {fs:List Field} {off mid stop:Nat} (ho:Opens P f.type d wf) (h1:f.offset=off) (h2:off + P.cellsOf f.type=mid)
    (hr:OpensF P fs mid stop d' wf'):OpensF P (f :: fs) off stop (Kd.pair d d') (fun x=>wf x.1∧wf' x.2):=by
  intro H enc w base sp held n cs hl hf
  obtain ⟨y,hy⟩:=hf f (by simp)
  rw [h1] at hy
  obtain ⟨a,hK,hw⟩:=ho H enc w base sp held n _ _ hy
  obtain ⟨b,hK',hw'⟩:=hr H enc w base sp held n cs hl (fun g hg=>hf g (by simp [hg]))
  refine ⟨(a,b),⟨_,_,?_,hK,hK'⟩,hw,hw'⟩
  rw [← h2,← List.drop_drop,List.take_append_drop]
theorem opens_struct {α β:Type} {d:Kd α} {wf:α→Prop} {fs:List Field} {stop:Nat} (ht:P.underlying t=some (.struct fs.toArray)) (hc:P.cellsOf t=stop) (hr:OpensF P fs 0 stop d wf)
    (tt:β→α) (back:α→β) (hb:∀ x,tt (back x)=x):Opens P t (Kd.iso d tt) (fun x=>wf (tt x)):=by
  intro H enc w base sp held fuel cs x h
  obtain ⟨xs,n,_,_,hl,hlen,hf⟩:=DataW.trod_struct ht h
  obtain ⟨a,hK,hw⟩:=hr H enc w base sp held n cs (by omega) (fun f hfm=>by
    obtain ⟨i,hi⟩:=List.mem_iff_getElem?.1 hfm
    have h1:=hf i f (by simpa using hi)
    have hil:i < xs.length:=by
      rw [hlen];have:=(List.getElem?_eq_some_iff.1 hi).1;simpa using this
    exact ⟨xs[i],by rw [h1,List.getElem?_eq_getElem hil]⟩)
  refine ⟨back a,?_,by show wf (tt (back a));rw [hb];exact hw⟩
  show d.K w (tt (back a)) cs
  rw [hb];exact hK
/-- Less may be asked. -/
theorem Opens.imp {α:Type} {d:Kd α} {wf wf':α→Prop} (h:Opens P t d wf) (hi:∀ x,wf x→wf' x):Opens P t d wf':=by
  intro H enc w base sp held fuel cs x hx
  obtain ⟨a,h1,h2⟩:=h H enc w base sp held fuel cs x hx
  exact ⟨a,h1,hi a h2⟩

/-- A parameter that is a slice. -/
theorem Opens.arg_slice {α:Type} {d:Kd α} {wf:List α→Prop} (ho:Opens P t (Kd.slice e d) wf) {H:Type} {enc:TypeId × Value→H} {w:World} {base:Nat} {sp:Nat→Bool} {held:Bool} {a:Option Addr} {n c:Nat} {y:DataW H} {ps:List MemPlace}
    (h:DataW.Trod enc P w base sp held t (.slice a n c) y ps):∃ l,n=l.length∧l.length≤c∧Kd.C d w a l.length l∧wf l:=by
  obtain ⟨fuel,hf⟩:=h
  obtain ⟨l,⟨A,c',he,hl,hC⟩,hw⟩:=ho H enc w base sp held fuel _ _ hf
  have he':[Value.slice a n c]=[.slice A l.length c']:=he
  injection he' with he' _
  injection he' with h1 h2 h3
  subst h1;subst h2;subst h3
  exact ⟨l,rfl,hl,hC,hw⟩
/-- A parameter that is a struct. -/
theorem Opens.arg_agg {α:Type} {d:Kd α} {wf:α→Prop} (ho:Opens P t d wf) {H:Type} {enc:TypeId × Value→H} {w:World} {base:Nat} {sp:Nat→Bool} {held:Bool} {cs:Array Value} {y:DataW H} {ps:List MemPlace}
    (h:DataW.Trod enc P w base sp held t (.agg cs) y ps):∃ x,d.K w x cs.toList∧wf x:=by
  obtain ⟨fuel,hf⟩:=h
  exact ho H enc w base sp held fuel _ _ hf
end
end Go.Proofs.Ytjgnkhfgmpaljaa.M
