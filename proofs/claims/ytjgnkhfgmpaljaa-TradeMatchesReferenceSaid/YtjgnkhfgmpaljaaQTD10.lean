/- Lemmas, readings of functions as plain Lean functions and contracts of functions of the program, for the claimed theorem; each one's conditions stand in its statement. -/
import Derived.Maps.Keyed
import Derived.Maps.OwnSet
import Derived.Carry
import Derived.OwnWalk
import Derived.WalkKit
import Derived.Deep.Draws
namespace Go.Proofs.Ytjgnkhfgmpaljaa.M
set_option linter.unusedSimpArgs false
open Go.MapKept Go.ChangeMaps Go.RowKit
open Go.Maps (Keyed)
set_option linter.unusedVariables false

/-- Block b of w is a map with n entries, of which f says the element at each key. -/
def MapAt (w:World) (P:Program) (k:TypeId) (b:Nat) (f:Value→Option Value) (n:Nat):Prop :=
  ∃ es clock,w.heap[b]? = some (.map es clock)∧Stamped es clock∧(∀ e ∈ es.toList,∃ l,keyOf P k e.key=some l)∧es.size=n ∧
    ∀ x v,f x=some v ↔ ∃ e ∈ es.toList,e.key=x∧e.val=v

section
variable {P:Program} {k:TypeId} {w:World} {b n:Nat} {f:Value→Option Value}

theorem MapAt.lt (h:MapAt w P k b f n):b < w.heap.size:=by
  obtain ⟨es,clock,hb,_⟩:=h
  exact (Array.getElem?_eq_some_iff.1 hb).1

theorem MapAt.congr {f':Value→Option Value} (h:MapAt w P k b f n) (hf:∀ x,f' x=f x):MapAt w P k b f' n:=by
  have:f'=f:=funext hf
  rw [this];exact h

theorem MapAt.move {w':World} (h:MapAt w P k b f n) (hm:w'.heap[b]? = w.heap[b]?):MapAt w' P k b f n:=by
  obtain ⟨es,clock,hb,r⟩:=h
  exact ⟨es,clock,hm.trans hb,r⟩

theorem MapAt.below {w':World} {B:Nat} (h:MapAt w P k b f n) (hb:Below B w w') (hB:b < B):MapAt w' P k b f n:=h.move (hb.block b hB)
theorem MapAt.kept {w':World} (h:MapAt w P k b f n) (hb:Below w.heap.size w w'):MapAt w' P k b f n:=h.move (hb.block b h.lt)
theorem MapAt.grown {w':World} {row:Option Nat} (h:MapAt w P k b f n) (hg:w.grownBy w' row) (hne:some b≠row):MapAt w' P k b f n:=h.move (hg.block b h.lt hne)
theorem MapAt.alloc (h:MapAt w P k b f n) (o:Obj):MapAt (w.alloc o) P k b f n:=h.grown (World.grownBy_alloc w o none) (by simp)
theorem MapAt.drew (h:MapAt w P k b f n):MapAt w.drew P k b f n:=h
theorem MapAt.drewN (h:MapAt w P k b f n) (m:Nat):MapAt (w.drewN m) P k b f n:=h
theorem MapAt.setCell (h:MapAt w P k b f n) {a:Addr} (ha:b≠a.block) (u:Value):MapAt (w.setCell a u) P k b f n:=h.move (RowKit.Below.heap_setCell _ _ _ _ ha)

theorem MapAt.made (w:World) (P:Program) (k:TypeId):MapAt (w.alloc (.map #[] 0)) P k w.heap.size (fun _=>none) 0 :=
  ⟨#[],0,(MapKept.heap_alloc w _).1,stamped_empty 0,by simp,rfl,by simp⟩

/-- The elements told: by what is there, or nothing. -/
theorem MapAt.cases_ (h:MapAt w P k b f n) (K:Keyed P k) {key:Value} {kl:Lit} (hkey:keyOf P k key=some kl) :
    ∃ es clock,w.heap[b]? = some (.map es clock) ∧
    (((Instr.findKey k key es.toList).run P w = .ok none w∧f key=none∧∀ e ∈ es.toList,e.key≠key) ∨
     ∃ j e,(Instr.findKey k key es.toList).run P w = .ok (some (j,e.val)) w∧es.toList[j]? = some e∧e.key=key∧f key=some e.val):=by
  obtain ⟨es,clock,hb,hs,hk,hn,hf⟩:=h
  refine ⟨es,clock,hb,?_⟩
  rcases K.find w hkey es.toList hk with ⟨h1,h2⟩|⟨j,e,h1,h2,h3⟩
  · refine .inl ⟨h1,?_,h2⟩
    cases hfk:f key with
    | none=>rfl
    | some v =>
      obtain ⟨e,he,h4,_⟩:=(hf key v).1 hfk
      exact absurd h4 (h2 e he)
  · exact .inr ⟨j,e,h1,h2,h3,(hf key e.val).2 ⟨e,List.mem_of_getElem? h2,h3,rfl⟩⟩

/-- What a look-up gives. -/
def looked (c:Bool) (z:Value) (r:Option Value):Value:=if c then .tuple #[r.getD z,.bool r.isSome] else r.getD z
theorem looked_false (z:Value) (r:Option Value):looked false z r=r.getD z:=rfl
theorem looked_true (z:Value) (r:Option Value):looked true z r = .tuple #[r.getD z,.bool r.isSome]:=rfl

theorem MapAt.look (h:MapAt w P k b f n) (c:Bool) {t e:TypeId} (K:Keyed P k) (ht:P.underlying t=some (.map k e)) {z:Value} (hz:(zeroValue e).run P w = .ok z w) {key:Value} {kl:Lit} (hkey:keyOf P k key=some kl) :
    (Instr.lookup t (.map (some b)) key c).run P w = .ok (looked c z (f key)) w:=by
  obtain ⟨es,clock,hb,h|⟨j,e0,h1,h2,h3,h4⟩⟩:=h.cases_ K hkey
  · obtain ⟨h1,h2,h3⟩:=h
    rw [h2]
    simp [Instr.lookup,run_underlying ht,MapKept.run_getObj_map hb,K.check w _ hkey,h1,hz,Result.andThen,looked]
  · rw [h4]
    simp [Instr.lookup,run_underlying ht,MapKept.run_getObj_map hb,K.check w _ hkey,h1,Result.andThen,looked]

theorem MapAt.len (h:MapAt w P k b f n) {t e:TypeId} (ht:P.underlying t=some (.map k e)) (ty:TypeId):(Builtin.len_ #[t] ty #[.map (some b)]).run P w = .ok (.int .i64 n) w:=by
  obtain ⟨es,clock,hb,_,_,hn,_⟩:=h
  subst hn
  simp [Builtin.len_,run_underlying ht,MapKept.run_getObj_map hb,goInt,Result.andThen]

open Classical in
/-- The elements behind a store. -/
noncomputable def putF (f:Value→Option Value) (key val:Value):Value→Option Value:=fun x=>if x=key then some val else f x

theorem putF_same (f:Value→Option Value) (key val:Value):putF f key val key=some val:=by simp [putF]
theorem putF_other {f:Value→Option Value} {key val x:Value} (h:x≠key):putF f key val x=f x:=by simp [putF,h]

theorem MapAt.store (h:MapAt w P k b f n) {t e:TypeId} (K:Keyed P k) (ht:P.underlying t=some (.map k e)) {key:Value} {kl:Lit} (hkey:keyOf P k key=some kl) (val:Value) :
    ∃ w',(Instr.mapUpdate t (.map (some b)) key val).run P w = .ok () w'∧MapAt w' P k b (putF f key val) (if (f key).isSome then n else n + 1)∧w.grownBy w' (some b)∧w'.heap.size=w.heap.size:=by
  obtain ⟨es,clock,hb,hs,hk,hn,hf⟩:=h
  rcases K.find w hkey es.toList hk with ⟨h1,h2⟩|⟨j,e0,h1,h2,h3⟩
  · have hfk:f key=none:=by
      cases hfk:f key with
      | none=>rfl
      | some v =>
        obtain ⟨e,he,h4,_⟩:=(hf key v).1 hfk
        exact absurd h4 (h2 e he)
    refine ⟨setBlock w b (.map (es.push ⟨key,val,clock⟩) (clock + 1)),?_,⟨_,_,heap_setBlock_same hb _,stamped_push hs h2,?_,?_,?_⟩,⟨rfl,rfl,rfl,by simp [setBlock],fun i _ hi=>heap_setBlock_other hb _ (fun e=>hi (by rw [e]))⟩,by simp [setBlock]⟩
    · simp [Instr.mapUpdate,run_underlying ht,MapKept.run_getObj_map hb,K.check w false hkey,h1,MapKept.run_setObj_map _ hb,Result.andThen,setBlock]
    · intro e he
      simp only [Array.toList_push,List.mem_append,List.mem_singleton] at he
      rcases he with he|rfl
      · exact hk e he
      · exact ⟨_,hkey⟩
    · simp [hfk,hn]
    · intro x v
      simp only [Array.toList_push,List.mem_append,List.mem_singleton]
      by_cases hx:x=key
      · subst hx
        rw [putF_same]
        constructor
        · intro h;injection h with h;exact ⟨_,.inr rfl,rfl,h⟩
        · rintro ⟨e,he|rfl,h4,h5⟩
          · exact absurd h4 (h2 e he)
          · rw [← h5]
      · rw [putF_other hx,hf]
        constructor
        · rintro ⟨e,he,h4,h5⟩;exact ⟨e,.inl he,h4,h5⟩
        · rintro ⟨e,he|rfl,h4,h5⟩
          · exact ⟨e,he,h4,h5⟩
          · exact absurd h4.symm hx
  · have hj:es[j]? = some e0:=by simpa using h2
    have hjl:j < es.toList.length:=(List.getElem?_eq_some_iff.1 h2).1
    have hkeyf:∀ e',es[j]? = some e'→({ e' with key:=key,val:=val }:MapEntry).key=e'.key:=fun e' he'=>by rw [hj] at he';cases he';exact h3.symm
    have hlist:(es.modify j (fun e'=>{ e' with key:=key,val:=val })).toList=es.toList.set j { e0 with key:=key,val:=val }:=by rw [Array.toList_modify,modify_eq_set _ _ _ _ h2]
    have hpair:es.toList.Pairwise (fun x y=>x.key≠y.key):=((stamped_iff es clock).1 hs).2.2
    have uniq:∀ i e,es.toList[i]? = some e→e.key=key→i=j:=by
      intro i e hi he
      obtain ⟨hil,hie⟩:=List.getElem?_eq_some_iff.1 hi
      obtain ⟨_,hje⟩:=List.getElem?_eq_some_iff.1 h2
      rcases Nat.lt_trichotomy i j with hlt|heq|hgt
      · exact absurd (by rw [hie,hje,he,h3]) (List.pairwise_iff_getElem.1 hpair i j hil hjl hlt)
      · exact heq
      · exact absurd (by rw [hie,hje,he,h3]) (List.pairwise_iff_getElem.1 hpair j i hjl hil hgt)
    have hfk:f key=some e0.val:=(hf key e0.val).2 ⟨e0,List.mem_of_getElem? h2,h3,rfl⟩
    refine ⟨setBlock w b (.map (es.modify j (fun e'=>{ e' with key:=key,val:=val })) clock),?_,⟨_,_,heap_setBlock_same hb _,stamped_modify hs _ _ (fun _ _=>rfl) (fun e' _ he'=>hkeyf e' he'),?_,?_,?_⟩,⟨rfl,rfl,rfl,by simp [setBlock],fun i _ hi=>heap_setBlock_other hb _ (fun e=>hi (by rw [e]))⟩,by simp [setBlock]⟩
    · simp [Instr.mapUpdate,run_underlying ht,MapKept.run_getObj_map hb,K.check w false hkey,h1,hj,h3,K.stays w hkey,MapKept.run_setObj_map _ hb,Result.andThen,setBlock]
    · intro e he
      rw [hlist] at he
      rcases List.mem_or_eq_of_mem_set he with he|rfl
      · exact hk e he
      · exact ⟨_,hkey⟩
    · simp [hfk,hn]
    · intro x v
      rw [hlist]
      by_cases hx:x=key
      · subst hx
        rw [putF_same]
        constructor
        · intro h;injection h with h
          exact ⟨{ e0 with key:=x,val:=val },List.mem_iff_getElem.2 ⟨j,by simpa using hjl,by simp⟩,rfl,h⟩
        · rintro ⟨e,he,h4,h5⟩
          obtain ⟨i,hi,hie⟩:=List.getElem_of_mem he
          rw [List.getElem_set] at hie
          split at hie
          · rw [← h5,← hie]
          · rename_i hne
            exact absurd (uniq i e (by rw [List.getElem?_eq_getElem (by simpa using hi),hie]) h4).symm hne
      · rw [putF_other hx,hf]
        constructor
        · rintro ⟨e,he,h4,h5⟩
          obtain ⟨i,hi,hie⟩:=List.getElem_of_mem he
          have hne:j≠i:=by
            intro e1;subst e1
            obtain ⟨_,hje⟩:=List.getElem?_eq_some_iff.1 h2
            rw [hje] at hie;subst hie
            exact hx (h4.symm.trans h3)
          exact ⟨e,List.mem_iff_getElem.2 ⟨i,by simpa using hi,by rw [List.getElem_set,if_neg hne];exact hie⟩,h4,h5⟩
        · rintro ⟨e,he,h4,h5⟩
          rcases List.mem_or_eq_of_mem_set he with he|rfl
          · exact ⟨e,he,h4,h5⟩
          · exact absurd h4.symm hx

/-- The keys, as a list without repeats. -/
theorem MapAt.keys (h:MapAt w P k b f n):∃ ks:List Value,ks.Nodup∧ks.length=n∧∀ x,x ∈ ks ↔ (f x).isSome=true:=by
  obtain ⟨es,clock,hb,hs,hk,hn,hf⟩:=h
  refine ⟨es.toList.map (·.key),hs.2.2,by simpa using hn,fun x=>?_⟩
  rw [List.mem_map]
  constructor
  · rintro ⟨e,he,rfl⟩
    rw [(hf e.key e.val).2 ⟨e,he,rfl,rfl⟩];rfl
  · intro hx
    obtain ⟨v,hv⟩:=Option.isSome_iff_exists.1 hx
    obtain ⟨e,he,h1,_⟩:=(hf x v).1 hv
    exact ⟨e,he,h1⟩

end

/-! At the operation, for the walk -/
section
variable {P:Program} {w:World} {ops:Array Oper} {rest:List Oper} {o:Oper} {a:Act} {Q:Exit→Act→World→Prop}

theorem wpList_look (hg:o.guard=none) (m x:Operand) (t:TypeId) (c:Bool) (hop:o.op=Op.lookup t m x c)
    (k e:TypeId) (K:Keyed P k) (ht:P.underlying t=some (.map k e)) (z:Value) (hz:∀ W:World,(zeroValue e).run P W = .ok z W) (b n:Nat) (f:Value→Option Value)
    (hm:a.eval m = .map (some b)) (hown:MapAt w P k b f n) (key:Value) (kl:Lit) (hx:a.eval x=key) (hkey:keyOf P k key=some kl)
    (r:Option Value) (hr:f key=r) (hK:wpList P ops Q rest (a.put o.dst (looked c z r)) w) :
    wpList P ops Q (o :: rest) a w:=by
  refine wpList_plain hg fun K' hK'=>?_
  have hrun:=hown.look c K ht (hz w) hkey
  rw [hr] at hrun
  unfold Oper.wp
  simp [execOp,hop,hm,hx,hrun,Result.andThen]
  exact hK' _ _ hK

theorem wpList_store (hg:o.guard=none) (m x v:Operand) (t:TypeId) (hop:o.op=Op.mapUpdate t m x v)
    (k e:TypeId) (K:Keyed P k) (ht:P.underlying t=some (.map k e)) (b n:Nat) (f:Value→Option Value)
    (hm:a.eval m = .map (some b)) (hown:MapAt w P k b f n) (key val:Value) (kl:Lit) (hx:a.eval x=key) (hv:a.eval v=val) (hkey:keyOf P k key=some kl)
    (hK:∀ w',MapAt w' P k b (putF f key val) (if (f key).isSome then n else n + 1)→w.grownBy w' (some b)→wpList P ops Q rest (a.put o.dst undef) w') :
    wpList P ops Q (o :: rest) a w:=by
  refine wpList_plain hg fun K' hK'=>?_
  obtain ⟨w',hrun,r1,r2,_⟩:=hown.store K ht hkey val
  unfold Oper.wp
  simp [execOp,hop,hm,hx,hv,hrun,Result.andThen]
  exact hK' _ _ (hK w' r1 r2)

/-- The store as one step of a region that draws its order. -/
theorem step_store {K:Act→World→Prop} (hw:Region.wanted o (yielded ops a.tmps)=true) (m x v:Operand) (t:TypeId) (hop:o.op=Op.mapUpdate t m x v)
    (k e:TypeId) (Ky:Keyed P k) (ht:P.underlying t=some (.map k e)) (b n:Nat) (f:Value→Option Value)
    (hm:a.eval m = .map (some b)) (hown:MapAt w P k b f n) (key val:Value) (kl:Lit) (hx:a.eval x=key) (hv:a.eval v=val) (hkey:keyOf P k key=some kl)
    (hK:∀ w',MapAt w' P k b (putF f key val) (if (f key).isSome then n else n + 1)→w.grownBy w' (some b)→K (a.put o.dst undef) w') :
    if Region.wanted o (yielded ops a.tmps)=true then Oper.wp P o a w K Q else K (a.put o.dst undef) w:=by
  rw [if_pos hw]
  obtain ⟨w',hrun,r1,r2,_⟩:=hown.store Ky ht hkey val
  unfold Oper.wp
  simp [execOp,hop,hm,hx,hv,hrun,Result.andThen]
  exact hK w' r1 r2
end

/-! Keys that are whole numbers, and strings -/
/-- A map from ints, told by a plain function. -/
def intF {α:Type} (enc:α→Value) (g:Int→Option α):Value→Option Value
  | .int .i64 i=>(g i).map enc
  | _=>none
def strF {α:Type} (enc:α→Value) (g:ByteArray→Option α):Value→Option Value
  | .string s=>(g s).map enc
  | _=>none
theorem intF_at {α:Type} (enc:α→Value) (g:Int→Option α) (i:Int):intF enc g (.int .i64 i)=(g i).map enc:=rfl
theorem intF_put {α:Type} (enc:α→Value) (g:Int→Option α) (i:Int) (x:α):putF (intF enc g) (.int .i64 i) (enc x)=intF enc (fun j=>if j=i then some x else g j):=by
  funext v
  by_cases hv:v = .int .i64 i
  · subst hv;rw [putF_same,intF_at,if_pos rfl];rfl
  · rw [putF_other hv]
    cases v <;> try rfl
    rename_i q j
    cases q <;> try rfl
    have:j≠i:=fun e=>hv (by rw [e])
    simp [intF,this]
theorem intF_none {α:Type} (enc:α→Value):(fun _=>none:Value→Option Value)=intF enc (fun _=>none):=by
  funext v;cases v <;> try rfl
  rename_i q j;cases q <;> rfl
end Go.Proofs.Ytjgnkhfgmpaljaa.M
