/- Lemmas, readings of functions as plain Lean functions and contracts of functions of the program, for the claimed theorem; each one's conditions stand in its statement. -/
import Derived.Test.YtjgnkhfgmpaljaaQTD10
import Derived.WideKeyEntry
namespace Go.Proofs.Ytjgnkhfgmpaljaa.M
set_option linter.unusedSimpArgs false
open Go.MapKept Go.ChangeMaps Go.RowKit Go.WideElems
open Go.Maps (Keyed)
set_option linter.unusedVariables false
section
variable {P:Program} {k:TypeId} {w:World} {b n:Nat} {f:Value→Option Value}
theorem MapAt.entry (h:MapAt w P k b f n) {t e:TypeId} (K:Keyed P k) (ht:P.underlying t=some (.map k e)) {z:Value} (hz:∀ u:World,(zeroValue e).run P u = .ok z u) {key:Value} {kl:Lit} (hkey:keyOf P k key=some kl) (val:Value) :
  ∃ (v0:Value) (st:Nat) (w1:World),(Instr.mapEntry t (.map (some b)) key).run P w = .ok (.tuple #[v0,.int .i64 (st:Int)]) w1∧w.grownBy w1 (some b)∧w1.heap.size=w.heap.size ∧
   ∃ (w2:World),(Instr.entryStore t (.map (some b)) (.int .i64 (st:Int)) val).run P w1 = .ok () w2∧MapAt w2 P k b (putF f key val) (if (f key).isSome then n else n + 1)∧w.grownBy w2 (some b)∧w2.heap.size=w.heap.size:=by
 obtain ⟨w',hrun',hm',_,_⟩:=h.store K ht hkey val
 obtain ⟨es,clock,hb,hs,hk,hn,hf⟩:=h
 obtain ⟨s1,s2,s3⟩:=(stamped_iff es clock).1 hs
 have grown:∀ es1 c1 es2 c2,w.grownBy (setBlock w b (.map es1 c1)) (some b)∧w.grownBy (setBlock (setBlock w b (.map es1 c1)) b (.map es2 c2)) (some b):=by
  intro es1 c1 es2 c2
  have hset:=heap_setBlock_same hb (.map es1 c1)
  refine ⟨⟨rfl,rfl,rfl,by simp [setBlock],fun i _ hi=>heap_setBlock_other hb _ (fun e=>hi (by rw [e]))⟩,⟨rfl,rfl,rfl,by simp [setBlock],fun i _ hi=>?_⟩⟩
  exact (heap_setBlock_other hset _ (fun e=>hi (by rw [e]))).trans (heap_setBlock_other hb _ (fun e=>hi (by rw [e])))
 have fin:∀ es1 c1 es' c',(Instr.mapUpdate t (.map (some b)) key val).run P w = .ok () (setBlock w b (.map es' c'))→MapAt (setBlock (setBlock w b (.map es1 c1)) b (.map es' c')) P k b (putF f key val) (if (f key).isSome then n else n + 1):=by
  intro es1 c1 es' c' hr
  rw [hrun'] at hr
  have e:w'=setBlock w b (.map es' c'):=by injection hr
  rw [e] at hm'
  refine hm'.move ?_
  rw [heap_setBlock_same (heap_setBlock_same hb _),heap_setBlock_same hb]
 rcases K.find w hkey es.toList hk with ⟨h1,h2⟩|⟨j,e0,h1,h2,h3⟩
 ·
  refine ⟨z,clock,setBlock w b (.map (es.push ⟨key,z,clock⟩) (clock + 1)),?_,(grown _ _ #[] 0).1,by simp [setBlock],setBlock (setBlock w b (.map (es.push ⟨key,z,clock⟩) (clock + 1))) b (.map (es.push ⟨key,val,clock⟩) (clock + 1)),?_,?_,(grown _ _ _ _).2,by simp [setBlock]⟩
  ·
   simp [Instr.mapEntry,run_underlying ht,MapKept.run_getObj_map hb,K.check w false hkey,h1,hz,MapKept.run_setObj_map _ hb,Result.andThen,setBlock,goInt]
  ·
   have hidx:(es.push ⟨key,z,clock⟩).findIdx? (fun e=>((e.born:Nat):Int) == ((clock:Nat):Int))=some es.size:=by
    rw [findIdx_arr]
    have:=findIdx_born (l:=(es.push ⟨key,z,clock⟩).toList) (j:=es.size) (e0:=⟨key,z,clock⟩) (by
     simp only [Array.toList_push,List.map_append,List.map_cons,List.map_nil]
     refine List.nodup_append.2 ⟨s2,by simp,fun a ha c hc e1=>?_⟩
     rw [List.mem_singleton] at hc;subst hc;subst e1
     obtain ⟨x,hx,hx2⟩:=List.mem_map.1 ha
     have:=s1 x hx
     omega) (by simp)
    exact this
   have hb2:(setBlock w b (.map (es.push ⟨key,z,clock⟩) (clock + 1))).heap[b]? = some (.map (es.push ⟨key,z,clock⟩) (clock + 1)):=heap_setBlock_same hb _
   have hmod:(es.push ⟨key,z,clock⟩).modify es.size (fun e=>{ e with val:=val })=es.push ⟨key,val,clock⟩:=by
    apply Array.toList_inj.1
    rw [Array.toList_modify,Array.toList_push,Array.toList_push,← Array.length_toList,modify_last]
   simp [Instr.entryStore,MapKept.run_getObj_map hb2,asInt,asIntOf,Result.andThen,hidx,MapKept.run_setObj_map _ hb2,hmod]
   simp [setBlock]
  ·
   refine fin _ _ _ _ ?_
   simp [Instr.mapUpdate,run_underlying ht,MapKept.run_getObj_map hb,K.check w false hkey,h1,MapKept.run_setObj_map _ hb,Result.andThen,setBlock]
 ·
  have hj:es[j]? = some e0:=by simpa using h2
  refine ⟨e0.val,e0.born,setBlock w b (.map (es.modify j (fun e'=>{ e' with key:=key })) clock),?_,(grown _ _ #[] 0).1,by simp [setBlock],setBlock (setBlock w b (.map (es.modify j (fun e'=>{ e' with key:=key })) clock)) b (.map (es.modify j (fun e'=>{ e' with key:=key,val:=val })) clock),?_,?_,(grown _ _ _ _).2,by simp [setBlock]⟩
  ·
   simp [Instr.mapEntry,run_underlying ht,MapKept.run_getObj_map hb,K.check w false hkey,h1,hj,h3,K.stays w hkey,MapKept.run_setObj_map _ hb,Result.andThen,setBlock,goInt]
  ·
   have hb2:(setBlock w b (.map (es.modify j (fun e'=>{ e' with key:=key })) clock)).heap[b]? = some (.map (es.modify j (fun e'=>{ e' with key:=key })) clock):=heap_setBlock_same hb _
   have hidx:(es.modify j (fun e'=>{ e' with key:=key })).findIdx? (fun e=>((e.born:Nat):Int) == ((e0.born:Nat):Int))=some j:=by
    rw [findIdx_arr,Array.toList_modify]
    refine findIdx_born (e0:={ e0 with key:=key }) ?_ ?_
    ·
     have:(es.toList.modify j (fun e'=>{ e' with key:=key })).map (·.born)=es.toList.map (·.born):=by
      apply List.ext_getElem?
      intro i
      simp only [List.getElem?_map,List.getElem?_modify]
      by_cases hij:j=i
      ·
       subst hij;simp [h2]
      ·
       simp [hij]
     rw [this];exact s2
    ·
     simp [List.getElem?_modify,h2]
   have hmod:(es.modify j (fun e'=>{ e' with key:=key })).modify j (fun e=>{ e with val:=val })=es.modify j (fun e'=>{ e' with key:=key,val:=val }):=by
    apply Array.toList_inj.1
    rw [Array.toList_modify,Array.toList_modify,Array.toList_modify]
    apply List.ext_getElem?
    intro i
    simp only [List.getElem?_modify]
    by_cases hij:j=i
    ·
     subst hij;simp [h2]
    ·
     simp [hij]
   simp [Instr.entryStore,MapKept.run_getObj_map hb2,asInt,asIntOf,Result.andThen,hidx,MapKept.run_setObj_map _ hb2,hmod]
   simp [setBlock]
  ·
   refine fin _ _ _ _ ?_
   simp [Instr.mapUpdate,run_underlying ht,MapKept.run_getObj_map hb,K.check w false hkey,h1,hj,h3,K.stays w hkey,MapKept.run_setObj_map _ hb,Result.andThen,setBlock]
end
end Go.Proofs.Ytjgnkhfgmpaljaa.M
