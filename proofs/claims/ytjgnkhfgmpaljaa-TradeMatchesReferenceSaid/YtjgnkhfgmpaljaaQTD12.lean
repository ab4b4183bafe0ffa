/- Lemmas, readings of functions as plain Lean functions and contracts of functions of the program, for the claimed theorem; each one's conditions stand in its statement. -/
import Derived.Test.YtjgnkhfgmpaljaaQTD11
import Derived.Deep.LoopGhost
import Derived.WalkMore
namespace Go.Proofs.Ytjgnkhfgmpaljaa.P
open Go.RowKit Go.Proofs.YtjgnkhfgmpaljaaW.PrintWords Go.Proofs.YtjgnkhfgmpaljaaW.PrintLast Go.Proofs.YtjgnkhfgmpaljaaW.PrintMore Go.Proofs.Ytjgnkhfgmpaljaa.M
set_option linter.unusedVariables false
set_option linter.unusedSimpArgs false
def nextS (s:GS) (q:Int):Int:=ownerS s (wantS s q)
def walkS (s:GS) (p:Int):Nat→List Int→Int→Option (List Int)
 | 0,_,_=>none
 | k + 1,path,at_=>if at_=p then some path else if hasB path at_=true then none else walkS s p k (path ++ [at_]) (nextS s at_)
def cycleAtS (s:GS) (p:Int):Option (List Int):=walkS s p (s.P.length + 1) [p] (nextS s p)
def cycL (s:GS):List Int→List Int
 | []=>[]
 | p :: l=>if leftS s p=true then match cycleAtS s p with
  | some C=>C
  | none=>cycL s l
  else cycL s l
def cycleS (s:GS):List Int:=cycL s s.ord
theorem cycL_step {s:GS} {l:List Int} {k:Nat} (h:k < l.length):cycL s (l.drop k)=if leftS s (rd l (k:Int))=true then match cycleAtS s (rd l (k:Int)) with
  | some C=>C
  | none=>cycL s (l.drop (k + 1))
  else cycL s (l.drop (k + 1)):=by
 rw [List.drop_eq_getElem_cons h,rd_get h];rfl
theorem wantZ_ok {own:Int} {tak:Int→Option Bool}:∀ {l:List Int},okI own→(∀ f ∈ l,okI f)→okI (wantZ own tak l)
 | [],h,_=>h
 | f :: l,h,h2=>by
  unfold wantZ
  split
  ·
   exact h
  ·
   split
   ·
    exact wantZ_ok h (fun g hg=>h2 g (List.mem_cons_of_mem _ hg))
   ·
    exact h2 f List.mem_cons_self
theorem wantS_ok {s:GS} (ok:GOk s) {p:Nat} (hp:p < s.P.length):okI (wantS s p):=by
 have:=ok.wn _ (rd41_mem hp)
 exact wantZ_ok this.2.1 this.2.2
theorem firstS_bd {s:GS} (ok:GOk s) {p:Int} (hp:p ∈ s.ord) (hl:leftS s p=true):0≤firstS s∧firstS s < s.P.length:=by
 unfold firstS
 rcases idxZ_spec (pr:=leftS s) s.ord 0 with ⟨e1,h2⟩|⟨i,hi,e1,_,_⟩
 ·
  rw [h2 p hp] at hl;cases hl
 ·
  rw [Nat.zero_add] at e1
  rw [if_neg (by omega),e1]
  exact ok.ord _ (rd_mem hi)
theorem nextS_bd {s:GS} (ok:GOk s) {p:Int} (hp:p ∈ s.ord) (hl:leftS s p=true) (q:Int):0≤nextS s q∧nextS s q < s.P.length:=by
 unfold nextS ownerS
 split
 ·
  rename_i h
  cases ht:s.ten (wantS s q) with
  | none=>unfold holdsS at h;rw [ht] at h;cases h
  | some t=>exact ok.ten _ _ ht
 ·
  exact firstS_bd ok hp hl
theorem nodup_bdI (n:Nat) (l:List Int) (h1:l.Nodup) (h2:∀ x ∈ l,0≤x∧x < n):l.length≤n:=by
 have h3:(l.map Int.toNat).Nodup:=by
  unfold List.Nodup
  rw [List.pairwise_map]
  exact h1.imp_of_mem fun {a b} ha hb hne e=>hne (by have:=h2 a ha;have:=h2 b hb;omega)
 have key:∀ (l m:List Nat),l.Nodup→(∀ x ∈ l,x ∈ m)→l.length≤m.length:=by
  intro l
  induction l with
  | nil=>intros;exact Nat.zero_le _
  | cons a l ih =>
   intro m hn hs
   rw [List.nodup_cons] at hn
   have ha:=hs a List.mem_cons_self
   have h1:=ih (m.erase a) hn.2 (fun x hx=>(List.mem_erase_of_ne (fun e=>hn.1 (by rw [← e];exact hx))).2 (hs x (List.mem_cons_of_mem _ hx)))
   rw [List.length_erase_of_mem ha] at h1
   have:=List.length_pos_of_mem ha
   rw [List.length_cons];omega
 have:=key _ (List.range n) h3 (fun x hx=>by
  rw [List.mem_map] at hx
  obtain ⟨y,hy,rfl⟩:=hx
  have:=h2 y hy
  simp;omega)
 simpa using this
/-- What is carried along a way. -/
structure PathOk (n:Nat) (path:List Int) (k:Nat):Prop where
 len:path.length + k=n + 2
 nd:path.Nodup
 bd:∀ x ∈ path,0≤x∧x < n
def CycPost (w:World) (l:List Int) (e:Ending) (w':World):Prop:=∃ v:Value,e = .returned v∧Kd.R (Kd.int .i64) 3 w' w.heap.size (fun _=>True) v l∧Below w.heap.size w w'
theorem R_lit1 (W:World) (base:Nat) (hb:base≤W.heap.size) (x:Int):Kd.R (Kd.int .i64) 3 (W.alloc (.cells #[.int .i64 x] 3)) base (fun _=>True) (.slice (some ⟨W.heap.size,0,none⟩) 1 1) [x] :=
 Kd.R_of_own (enc:=Value.int .i64) (h1:=fun _=>rfl) (own_lit W base 3 .i64 [x] hb (by simp)) (fun _ _=>trivial)
theorem leftS_get {s:GS} {p:Nat} {b:Bool} (h:leftS s (p:Int)=b):s.gone.getD p false = !b:=by
 unfold leftS at h;rw [Int.toNat_natCast] at h;rw [← h];simp
set_option maxHeartbeats 16000000 in
set_option maxRecDepth 100000 in
theorem cycle_calls {w0 w:World} {a:GA} {s:GS} {vR:Value} (h:GAt w0 w a s vR) (ok:GOk s) :
  Calls Try.prog 75 #[.pointer (some ⟨a.g,0,none⟩)] w (CycPost w (cycleS s)):=by
 have HH:=zF h
 have HOK:=zF ok
 have hn:=ok.n
 have hol:s.ord.length≤64:=by have:=ok.ordn;omega
 have hgl:=ok.gone
 have hco:=h.ordc
 have HCW:=zF (fun (W:World) (hb:Below w.heap.size w W) (q:Nat) (hq:q < s.P.length)=>want_calls (h.kept hb) ok q hq)
 have HCO:=zF (fun (W:World) (hb:Below w.heap.size w W) (q:Nat) (hq:q < s.P.length)=>owner_calls (h.kept hb) ok (wantS s q) (wantS_ok ok hq))
 have c2:=h.c2
 have c4:=h.c4
 obtain ⟨AG,cG,eG,lG,rG⟩:=h.goneC
 rw [eG,hgl] at c4
 rw [hgl] at lG rG
 have HRG:=zF rG
 have HC2:=zF c2
 have HC4:=zF c4
 have HRO:=zF h.ordW
 have HB0:=zF (Below.refl w.heap.size w)
 clear h ok eG hgl rG c4
 go_enter Try.func75,Try.ntmps75
 go_wp2
 go_step3
 go_wp2
 go_step3
 go_wp2
 clear c2
 go_loopg [15] s.ord.length (fun gk v15 w'=>∃ i:Nat,v15 = .int .i64 i∧Aside0 (i≤s.ord.length∧gk=s.ord.length - i)∧Aside0 (cycleS s=cycL s (s.ord.drop i))∧Aside0 (Below w.heap.size w w'))
 case atStart=>exact ⟨0,rfl,⟨Nat.zero_le _,rfl⟩,⟨by rw [List.drop_zero];rfl⟩,HB0⟩
 case round =>
  clear HB0
  obtain ⟨i,rfl,HI,HR,HB⟩:=hrel
  have hi:=HI.out.1
  have c2:=pw_cell_below HB.out HC2.out
  have c4:=pw_cell_below HB.out HC4.out
  by_cases hlt:i < s.ord.length
  ·
   obtain ⟨ad,e,y⟩:=intC_at HRO.out (i:=i) hlt
   have HAO:Aside0 (a.AO=some ad):=⟨e⟩
   have HS:=zF (cycL_step (s:=s) hlt)
   have HPm:=zF (rd_mem hlt)
   obtain ⟨q0,q1⟩:=HOK.out.ord _ HPm.out
   obtain ⟨p,hp⟩:∃ p:Nat,rd s.ord (i:Int)=p:=⟨(rd s.ord (i:Int)).toNat,by omega⟩
   rw [hp] at y HS HPm
   have hpl:p < s.P.length:=by omega
   have hpl':(p:Int) < (s.P.length:Int):=by omega
   have hlt':(i:Int) < (s.ord.length:Int):=by omega
   replace y:=pw_cell_below HB.out y
   obtain ⟨adg,eg,yg⟩:=boolC_at HRG.out (i:=p) hpl
   replace yg:=pw_cell_below HB.out yg
   clear hp q0 q1 HAO
   generalize a.AO=AO at *
   subst e
   subst eg
   cases hls:leftS s p with
   | false =>
    rw [leftS_get hls] at yg
    have HE:Aside0 (cycleS s=cycL s (s.ord.drop (i + 1))):=⟨by rw [HR.out,HS.out,if_neg (by rw [hls];decide)]⟩
    clear hls
    go_wp2
    go_roundg (s.ord.length - (i + 1))
    case measure=>have:=HI.out;omega
    case rel=>exact ⟨i + 1,by go_num,⟨by omega,rfl⟩,HE,HB⟩
   | true =>
    rw [leftS_get hls] at yg
    have HLS:=zF hls
    have HN:=zF (nextS_bd HOK.out HPm.out HLS.out)
    have HBa:=zF (below_alloc HB.out (.cells #[.int .i64 p] 3))
    have HRp:=zF (R_lit1 wr w.heap.size HB.out.size p)
    have HE0:Aside0 (cycleS s=match cycleAtS s p with
     | some C=>C
     | none=>cycL s (s.ord.drop (i + 1))):=⟨by rw [HR.out,HS.out,if_pos hls]⟩
    have HC1:=zF (HCW.out _ HBa.out p hpl)
    clear hls HR HS
    go_wp2_with (first
     | (go_at_call 72;(with_reducible refine HC1.out.mono ?_);rintro e w1 ⟨rfl,hb⟩;have HB1:=zF (below_step HBa.out hb);have HRp1:=zF (Kd.R_below HRp.out hb);have HC3:=zF (HCO.out _ HB1.out p hpl);clear hb)
     | (go_at_call 84;(with_reducible refine HC3.out.mono ?_);rintro e w2 ⟨rfl,hb⟩;have HB2:=zF (below_step HB1.out hb);have HRp2:=zF (Kd.R_below HRp1.out hb);clear hb))
    clear HRp1 HB1 HRp HBa HB HC1 HC3
    have HP0:Aside0 (PathOk s.P.length [(p:Int)] (s.P.length + 1)):=⟨⟨by simp;omega,by simp,fun x hx=>by rw [List.mem_singleton] at hx;subst hx;omega⟩⟩
    have HN0:Aside0 (∃ q:Nat,ownerS s (wantS s p)=q∧q < s.P.length):=⟨⟨(nextS s p).toNat,by have:=(HN.out p).1;show nextS s p=_;omega,by have:=HN.out p;omega⟩⟩
    obtain ⟨q0,hq0,hq0l⟩:=HN0.out
    have HW0:Aside0 (walkS s p (s.P.length + 1) [(p:Int)] q0=cycleAtS s p):=⟨by rw [← hq0];rfl⟩
    rw [hq0]
    clear hq0 HN0 c2 c4 y yg
    go_loopg [6,7] (s.P.length + 1) (fun gk v6 v7 w'=>∃ (path:List Int) (q:Nat),v7 = .int .i64 q∧Aside0 (q < s.P.length)∧Aside0 (PathOk s.P.length path gk)∧Aside0 (walkS s p gk path q=cycleAtS s p) ∧
     Aside0 (Kd.R (Kd.int .i64) 3 w' w.heap.size (fun _=>True) v6 path)∧Aside0 (Below w.heap.size w w'))
    case atStart=>exact ⟨_,q0,rfl,⟨hq0l⟩,HP0,HW0,HRp2,HB2⟩
    case round =>
     clear HP0 HW0 HRp2 HB2 hq0l
     obtain ⟨path,q,rfl,HQ,HP,HWk,HRr,HBr⟩:=hrel
     have hql:=HQ.out
     have hql':(q:Int) < (s.P.length:Int):=by omega
     have hpl2:path.length≤s.P.length:=nodup_bdI _ _ HP.out.nd HP.out.bd
     obtain ⟨gm,hgm⟩:∃ gm,gk=gm + 1:=⟨gk - 1,by have:=HP.out.len;omega⟩
     subst hgm
     obtain ⟨A1,cp,hv,l1,r1⟩:=Kd.R_reads HRr.out
     subst hv
     have HR1:=zF r1
     clear r1
     by_cases e1:q=p
     ·
      subst e1
      have HE1:Aside0 (cycleAtS s q=some path):=⟨by rw [← HWk.out];unfold walkS;rw [if_pos rfl]⟩
      have HE:Aside0 (cycleS s=path):=⟨by rw [HE0.out,HE1.out]⟩
      go_wp2
      rw [Exit.noGoto_ret]
      go_ret
      exact ⟨_,rfl,by rw [HE.out];exact HRr.out,HBr.out⟩
     ·
      have e1a:((q:Int) != (p:Int))=true:=by rw [bne_iff_ne];omega
      have e1b:(q != p)=true:=by rw [bne_iff_ne];exact e1
      have e1c:¬ (q:Int)=(p:Int):=by omega
      have HCc:=zF (contains_calls A1 cp path q wr HR1.out (by omega))
      cases hh:hasB path q with
      | true =>
       rw [hh] at HCc
       have HE1:Aside0 (cycleAtS s p=none):=⟨by rw [← HWk.out];unfold walkS;rw [if_neg e1c,if_pos hh]⟩
       have HE:Aside0 (cycleS s=cycL s (s.ord.drop (i + 1))):=⟨by rw [HE0.out,HE1.out]⟩
       clear hh e1 e1c
       go_wp2_with (go_at_call 85;(with_reducible refine HCc.out.mono ?_);rintro e w' ⟨rfl,rfl⟩)
       go_roundg (s.ord.length - (i + 1))
       case measure=>have:=HI.out;omega
       case rel=>exact ⟨i + 1,by go_num,⟨by omega,rfl⟩,HE,HBr⟩
      | false =>
       rw [hh] at HCc
       have HE1:Aside0 (walkS s p gm (path ++ [(q:Int)]) (nextS s q)=cycleAtS s p):=by
        refine ⟨?_⟩
        rw [← HWk.out]
        conv=>rhs;unfold walkS
        rw [if_neg e1c,if_neg (by rw [hh];decide)]
       have HP1:Aside0 (PathOk s.P.length (path ++ [(q:Int)]) gm):=⟨⟨by have:=HP.out.len;rw [List.length_append,List.length_singleton];omega,by
        rw [List.nodup_append]
        refine ⟨HP.out.nd,by simp,fun x hx y hy e=>?_⟩
        rw [List.mem_singleton] at hy;subst hy;subst e
        rw [hasB_iff.2 hx] at hh;exact Bool.noConfusion hh,fun x hx=>by
        rcases List.mem_append.1 hx with hx|hx
        ·
         exact HP.out.bd x hx
        ·
         rw [List.mem_singleton] at hx;subst hx;omega⟩⟩
       have HBa:=zF (below_alloc HBr.out (.cells #[.int .i64 q] 3))
       clear hh e1 e1c HP
       go_wp2_with (first
        | (go_at_call 85;(with_reducible refine HCc.out.mono ?_);rintro e w' ⟨rfl,rfl⟩)
        | ((with_reducible refine gate_builtin (b:=.append) (xs:=#[.tmp 44,.tmp 46]) rfl ?_);at_builtin;refine Kd.R_append (Kd.int .i64) (w0:=w) w.heap.size rfl (.tmp 44) (.tmp 46) 26 3 (.int .i64 0) 8 rfl Try.underlying26 info3 rfl (by decide) (by omega) (.slice A1 path.length cp) path (q:Int) [.int .i64 q] (fun _=>True) (fun _=>False) rfl rfl ?aP (fun _ hk=>hk.elim) (fun _ _=>trivial) HRr.out HBr.out HBr.out.size (by omega) ?_;(case aP=>exact rfl);intro v2 w2 ho hb hg hat;have HO2:=zF ho;have HB2:=zF hb;have HC1:=zF (HCW.out _ hb q hql);clear ho hb hg hat HRr HR1 HCc HBa)
        | (go_at_call 72;(with_reducible refine HC1.out.mono ?_);rintro e w3 ⟨rfl,hb⟩;have HB3:=zF (below_step HB2.out hb);have HO3:=zF (Kd.R_below HO2.out hb);have HC3:=zF (HCO.out _ HB3.out q hql);clear hb)
        | (go_at_call 84;(with_reducible refine HC3.out.mono ?_);rintro e w4 ⟨rfl,hb⟩;have HB4:=zF (below_step HB3.out hb);have HO4:=zF (Kd.R_below HO3.out hb);clear hb))
       have HN1:Aside0 (∃ q':Nat,ownerS s (wantS s q)=q'∧q' < s.P.length):=⟨⟨(nextS s q).toNat,by have:=(HN.out q).1;show nextS s q=_;omega,by have:=HN.out q;omega⟩⟩
       obtain ⟨q',hq',hql2⟩:=HN1.out
       have HE2:Aside0 (walkS s p gm (path ++ [(q:Int)]) q'=cycleAtS s p):=⟨by rw [← hq'];exact HE1.out⟩
       rw [hq']
       go_roundg gm
       case measure=>omega
       case rel=>exact ⟨_,q',rfl,⟨hql2⟩,HP1,HE2,HO4,HB4⟩
  ·
   obtain rfl:i=s.ord.length:=by omega
   have HE:Aside0 (cycleS s=[]):=⟨by rw [HR.out,List.drop_length];rfl⟩
   go_wp2
   rw [Exit.noGoto_ret]
   go_ret
   exact ⟨_,rfl,by rw [HE.out];exact Kd.R_nil _ _ _ _ _,HB.out⟩
end Go.Proofs.Ytjgnkhfgmpaljaa.P
