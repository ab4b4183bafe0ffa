/- Lemmas, readings of functions as plain Lean functions and contracts of functions of the program, for the claimed theorem; each one's conditions stand in its statement. -/
import Derived.Test.YtjgnkhfgmpaljaaQTD27
import Derived.Test.YtjgnkhfgmpaljaaQTD14
import Derived.Deep.CutBlock
import Derived.Deep.DeepCutAuto
import Derived.Outline
namespace Go.Proofs.Ytjgnkhfgmpaljaa.P
open Go.RowKit Go.Proofs.YtjgnkhfgmpaljaaW.PrintWords Go.Proofs.YtjgnkhfgmpaljaaW.PrintLast Go.Proofs.YtjgnkhfgmpaljaaW.PrintMore Go.Proofs.Ytjgnkhfgmpaljaa.M
open Go.Proofs.Ytjgnkhfgmpaljaa
set_option linter.unusedVariables false
set_option linter.unusedSimpArgs false
set_option maxHeartbeats 8000000 in
set_option maxRecDepth 100000 in
theorem rsolve_no (A0 A1 A2:Option Addr) (c0 c1 c2:Nat) (F:List S53) (P:List S41) (ord:List Int) (w:World)
  (hr0:Kd.C k53 w A0 F.length F) (hc0:F.length≤c0) (hr1:Kd.C k41 w A1 P.length P) (hc1:P.length≤c1) (hr2:(Kd.int .i64).C w A2 ord.length ord) (hc2:ord.length≤c2) (hF64:F.length≤64) (hP64:P.length≤64) (hw:∀ p ∈ P,p.f2.length≤1000000) (ho:ord.length≤1000000) (hb:okB F P ord=false) :
  Calls Try.prog 19 #[.agg #[.slice A0 F.length c0,.slice A1 P.length c1],.slice A2 ord.length c2] w (SolvePost w [] [] 1):=by
 obtain ⟨kv,hv⟩:=(valid_ev F P hF64 hP64 hw).rounds
 obtain ⟨ko,hor⟩:=(order_ev ord P.length ho (by omega)).rounds
 have HV:=zF hv
 have HO:=zF hor
 have HR0:=zF hr0
 have HR1:=zF hr1
 have HR2:=zF hr2
 have HC0:=zF hc0
 have HC1:=zF hc1
 have HC2:=zF hc2
 have HB:=zF (Below.refl w.heap.size w)
 have hu25:=Try.underlying25
 have hu81:=Try.underlying81
 have hpl:P.length≤9223372036854775807:=by omega
 have HOL:=zF ho
 clear hv hor hr0 hr1 hr2 hc0 hc1 hc2 hw ho
 cases hvb:validG F P with
 | false =>
  rw [hvb] at HV
  clear hvb hb
  go_enter Try.func19,Try.ntmps19
  go_wp2_with (first|((with_reducible refine gate_dst (N:=2) rfl ?_);refine box_event ?hg (N:=2) ?hd (cs:=#[.slice A0 F.length c0,.slice A1 P.length c1]) (t:=25) ?hr ?_;(case hd=>rfl);(case hg=>rfl);(case hr=>first|(go_simp;done)|(go_simp;rfl));intro g2 hg w1 hbox hb;have K2:=zF hbox;have HG2:=zF (show w.heap.size≤g2 by rw [hg];exact Nat.le_refl _);replace HB:=zF (below_step HB.out hb);clear hbox hb hg;have z0:=(blk_cell K2.out 0).trans rfl;have z1:=(blk_cell K2.out 1).trans rfl)|(go_at_call 29;(with_reducible refine (cohousingref23_Valid.calls kv A0 c0 F A1 c1 P false _ (Kd.C_below HR0.out HB.out) HC0.out (Kd.C_below HR1.out HB.out) HC1.out HV.out).mono ?_);rintro e w2 ⟨rfl,hb⟩;replace HB:=zF (below_step HB.out hb);replace K2:=zF (blk_below K2.out hb);clear hb z0 z1;have z0:=(blk_cell K2.out 0).trans rfl;have z1:=(blk_cell K2.out 1).trans rfl))
  go_ret3
  exact ⟨_,_,rfl,Kd.R_nil _ _ _ _ _,Kd.S_nil _ _ _ _ _,HB.out⟩
 | true =>
  have hob:orderB ord (P.length:Int)=false:=by unfold okB at hb;rw [hvb,Bool.true_and] at hb;exact hb
  rw [hvb] at HV
  rw [hob] at HO
  clear hvb hob hb
  go_enter Try.func19,Try.ntmps19
  go_wp2_with (first|((with_reducible refine gate_dst (N:=2) rfl ?_);refine box_event ?hg (N:=2) ?hd (cs:=#[.slice A0 F.length c0,.slice A1 P.length c1]) (t:=25) ?hr ?_;(case hd=>rfl);(case hg=>rfl);(case hr=>first|(go_simp;done)|(go_simp;rfl));intro g2 hg w1 hbox hb;have K2:=zF hbox;have HG2:=zF (show w.heap.size≤g2 by rw [hg];exact Nat.le_refl _);replace HB:=zF (below_step HB.out hb);clear hbox hb hg;have z0:=(blk_cell K2.out 0).trans rfl;have z1:=(blk_cell K2.out 1).trans rfl)|(go_at_call 29;(with_reducible refine (cohousingref23_Valid.calls kv A0 c0 F A1 c1 P true _ (Kd.C_below HR0.out HB.out) HC0.out (Kd.C_below HR1.out HB.out) HC1.out HV.out).mono ?_);rintro e w2 ⟨rfl,hb⟩;replace HB:=zF (below_step HB.out hb);replace K2:=zF (blk_below K2.out hb);clear hb z0 z1;have z0:=(blk_cell K2.out 0).trans rfl;have z1:=(blk_cell K2.out 1).trans rfl)|(go_at_call 32;(with_reducible refine (cohousingref24_Order.calls ko A2 c2 ord (P.length:Int) false _ (Kd.C_below HR2.out HB.out) HC2.out HO.out).mono ?_);rintro e w3 ⟨rfl,hd⟩;have hb:=hd.below;replace HB:=zF (below_step HB.out hb);replace K2:=zF (blk_below K2.out hb);clear hb hd z0 z1;have z0:=(blk_cell K2.out 0).trans rfl;have z1:=(blk_cell K2.out 1).trans rfl))
  go_ret3
  exact ⟨_,_,rfl,Kd.R_nil _ _ _ _ _,Kd.S_nil _ _ _ _ _,HB.out⟩
theorem fc_at {ord:List Int} {i:Nat} (hi:i < ord.length) (f:Nat→Option (List Nat)):((ord.map Int.toNat).drop i).findSome? f=(f (rd ord (i:Int)).toNat).or (((ord.map Int.toNat).drop (i + 1)).findSome? f):=by
 rw [List.drop_eq_getElem_cons (by simpa using hi),List.findSome?_cons,List.getElem_map,rd_get hi]
 cases f (ord[i]).toNat <;> rfl
def fcF (P:List S41) (ord:List Int) (A:T.Asg) (p:Nat):Option (List Nat):=if (A p).isSome then none else T.cycleAt (datG P ord) A p
theorem fc_next {P:List S41} {ord:List Int} {A:T.Asg} {p i:Nat} {C:List Nat} (h:(fcF P ord A p).or (((ord.map Int.toNat).drop (i + 1)).findSome? (fcF P ord A))=some C) (ha:A p=none) :
  (cycR (T.cycleAt (datG P ord) A p)=[]∧((ord.map Int.toNat).drop (i + 1)).findSome? (fcF P ord A)=some C) ∨ cycR (T.cycleAt (datG P ord) A p)=ints C:=by
 have e:fcF P ord A p=T.cycleAt (datG P ord) A p:=by unfold fcF;rw [ha];rfl
 rw [e] at h
 cases hc:T.cycleAt (datG P ord) A p with
 | none=>rw [hc,Option.none_or] at h;exact .inl ⟨rfl,h⟩
 | some C2=>rw [hc,Option.some_or] at h;injection h with h;subst h;exact .inr rfl
theorem rings_ok2 {P:List S41} {ord:List Int} {t:T.St} (h:Fine P ord) (hR:T.RI (datG P ord) t):(t.l.map (ringOf P t.A)).length≤100∧∀ r ∈ t.l.map (ringOf P t.A),r.f1≠[]∧r.f1.length≤6400:=by
 have hl:=len_flat (fun r hr=>(hR.ne r hr).1)
 have hn:=T.nodup_bd P.length _ hR.nd (fun x hx=>by
  obtain ⟨r,hr,hx⟩:=List.mem_flatMap.1 hx
  exact (hR.gone r hr x hx).1)
 have:=h.n
 rw [List.length_map]
 refine ⟨by omega,fun r hr=>?_⟩
 obtain ⟨r',hr',rfl⟩:=List.mem_map.1 hr
 refine ⟨?_,?_⟩
 ·
  show r'.2.map (mvOf P t.A)≠[]
  simpa using (hR.ne r' hr').1
 ·
  show (r'.2.map (mvOf P t.A)).length≤6400
  rw [List.length_map]
  have:=hl.2 r' hr'
  omega
theorem ring_len (P:List S41) (ord:List Int) (A:T.Asg) (C:List Nat):(ringW P ord A C).2.1.length=C.length:=by
 unfold ringW
 split
 ·
  simp
 ·
  simp [T.chained_len]
theorem notP {w:World} {g t:Nat} {cells:Array Value} (h:w.heap[g]? = some (.cells cells t (0,0))) (h1:t≠47) (h2:t≠39):¬ PutW w g:=fun hp=>by
 obtain ⟨q,hq,cells',hc⟩:=hp
 rw [h] at hc
 injection hc with hc;injection hc with _ hc
 rcases hq with hq|hq
 ·
  exact h1 (hc.trans hq)
 ·
  exact h2 (hc.trans hq)
theorem blkP {w w':World} {g t:Nat} {cells:Array Value} (h:w.heap[g]? = some (.cells cells t (0,0))) (h1:t≠47) (h2:t≠39) (hk:Kept w w' (PutW w)):w'.heap[g]? = some (.cells cells t (0,0)):=(hk.2 g (blk_lt h) (notP h h1 h2)).trans h
theorem rowP {w0 w w':World} {v:Value} {l:List Int} (h:LRow w0 w v l) (hk:Kept w w' (PutW w)):LRow w0 w' v l:=by
 refine Kd.R_mono (Kd.R_kept (Kd.R_bound h) hk (fun k hk=>?_)) (fun k hk=>hk.1)
 obtain ⟨_,_,_,q,hq,cells,hc⟩:=hk
 have:q ∈ [3]:=hq
 simp only [List.mem_cons,List.not_mem_nil,or_false] at this
 subst this
 exact notP hc (by decide) (by decide)
theorem st3 {w W:World} {A0 A1 A2 AG AT:Option Addr} {c0 c1 c2 cG cT:Nat} {F:List S53} {P:List S41} {ord:List Int} {vK:Value} {gn:List Bool} {ts tk:List Int} {gs g2:Nat} {a b c d e f:Value} {x:Obj}
  (h:SR w W A0 c0 F A1 c1 P A2 c2 ord (.slice AG P.length cG) (.slice AT P.length cT) vK gn ts tk) (hc:W.heap[gs]? = some (.cells #[a,b,c,d,e,f] 81 (0,0))) (hm:W.heap[g2]? = some x) (hg:w.heap.size≤gs) (hne:gs≠g2) :
  ∃ (g:Nat) (AG':Option Addr) (cG':Nat) (AT':Option Addr) (cT':Nat),Value.pointer (some ⟨gs,0,none⟩) = .pointer (some ⟨g,0,none⟩)∧Aside0 (w.heap.size≤g) ∧
  Aside0 (SR w ((((((W.setCell ⟨gs,0,none⟩ (.slice A0 F.length c0)).setCell ⟨gs,1,none⟩ (.slice A1 P.length c1)).setCell ⟨gs,2,none⟩ (.slice A2 ord.length c2)).setCell ⟨gs,3,none⟩ (.slice AG P.length cG)).setCell ⟨gs,4,none⟩ (.slice AT P.length cT)).setCell ⟨gs,5,none⟩ vK) A0 c0 F A1 c1 P A2 c2 ord (.slice AG' P.length cG') (.slice AT' P.length cT') vK gn ts tk) ∧
  Aside0 (((((((W.setCell ⟨gs,0,none⟩ (.slice A0 F.length c0)).setCell ⟨gs,1,none⟩ (.slice A1 P.length c1)).setCell ⟨gs,2,none⟩ (.slice A2 ord.length c2)).setCell ⟨gs,3,none⟩ (.slice AG P.length cG)).setCell ⟨gs,4,none⟩ (.slice AT P.length cT)).setCell ⟨gs,5,none⟩ vK).heap[g]? = some (.cells #[.slice A0 F.length c0,.slice A1 P.length c1,.slice A2 ord.length c2,.slice AG' P.length cG',.slice AT' P.length cT',vK] 81 (0,0))) ∧
  Aside0 (((((((W.setCell ⟨gs,0,none⟩ (.slice A0 F.length c0)).setCell ⟨gs,1,none⟩ (.slice A1 P.length c1)).setCell ⟨gs,2,none⟩ (.slice A2 ord.length c2)).setCell ⟨gs,3,none⟩ (.slice AG P.length cG)).setCell ⟨gs,4,none⟩ (.slice AT P.length cT)).setCell ⟨gs,5,none⟩ vK).heap[g2]? = some x):=by
 have c1_:=blk_put hc 0 (.slice A0 F.length c0) rfl
 have h1:=h.set hc hg 0 (.slice A0 F.length c0)
 have c2_:=blk_put c1_ 1 (.slice A1 P.length c1) rfl
 have h2:=h1.set c1_ hg 1 (.slice A1 P.length c1)
 have c3_:=blk_put c2_ 2 (.slice A2 ord.length c2) rfl
 have h3:=h2.set c2_ hg 2 (.slice A2 ord.length c2)
 have c4_:=blk_put c3_ 3 (.slice AG P.length cG) rfl
 have h4:=h3.set c3_ hg 3 (.slice AG P.length cG)
 have c5_:=blk_put c4_ 4 (.slice AT P.length cT) rfl
 have h5:=h4.set c4_ hg 4 (.slice AT P.length cT)
 have c6_:=blk_put c5_ 5 vK rfl
 have h6:=h5.set c5_ hg 5 vK
 have far:∀ (W':World) (j:Nat) (u:Value),(W'.setCell ⟨gs,j,none⟩ u).heap[g2]? = W'.heap[g2]?:=fun W' j u=>Below.heap_setCell W' ⟨gs,j,none⟩ u g2 (fun e=>hne e.symm)
 exact ⟨gs,AG,cG,AT,cT,rfl,⟨hg⟩,⟨h6⟩,⟨c6_⟩,⟨by rw [far,far,far,far,far,far];exact hm⟩⟩
set_option maxHeartbeats 64000000 in
set_option maxRecDepth 100000 in
theorem rsolve_yes (A0 A1 A2:Option Addr) (c0 c1 c2:Nat) (F:List S53) (P:List S41) (ord:List Int) (w:World)
  (hr0:Kd.C k53 w A0 F.length F) (hc0:F.length≤c0) (hr1:Kd.C k41 w A1 P.length P) (hc1:P.length≤c1) (hr2:(Kd.int .i64).C w A2 ord.length ord) (hc2:ord.length≤c2) (hF64:F.length≤64) (hP64:P.length≤64) (hw:∀ p ∈ P,p.f2.length≤1000000) (ho:ord.length≤1000000) (hb:okB F P ord=true) (hF:Fine P ord) :
  Calls Try.prog 19 #[.agg #[.slice A0 F.length c0,.slice A1 P.length c1],.slice A2 ord.length c2] w (SolvePost w (outM P (finalG P ord).tos P.length) (finalG P ord).rg 0):=by
 obtain ⟨kv,hv⟩:=(valid_ev F P hF64 hP64 hw).rounds
 obtain ⟨ko,hor⟩:=(order_ev ord P.length ho (by omega)).rounds
 have HV:=zF hv
 have HO:=zF hor
 have HR0:=zF hr0
 have HR1:=zF hr1
 have HR2:=zF hr2
 have HC0:=zF hc0
 have HC1:=zF hc1
 have HC2:=zF hc2
 have HB:=zF (Below.refl w.heap.size w)
 have hu25:=Try.underlying25
 have hu81:=Try.underlying81
 have hpl:P.length≤9223372036854775807:=by omega
 have HOL:=zF ho
 clear hv hor hr0 hr1 hr2 hc0 hc1 hc2 hw ho
 obtain ⟨hvb,hob⟩:validG F P=true∧orderB ord (P.length:Int)=true:=by unfold okB at hb;rwa [Bool.and_eq_true] at hb
 rw [hvb] at HV
 rw [hob] at HO
 have HF:=zF hF
 have hwf:=fine_wf hF
 have hn:=hF.n
 clear hvb hob hb hF
 go_enter Try.func19,Try.ntmps19
 go_upto_region 3 with (first|((with_reducible refine gate_dst (N:=2) rfl ?_);refine box_event ?hg (N:=2) ?hd (cs:=#[.slice A0 F.length c0,.slice A1 P.length c1]) (t:=25) ?hr ?_;(case hd=>rfl);(case hg=>rfl);(case hr=>first|(go_simp;done)|(go_simp;rfl));intro g2 hg w1 hbox hb;have K2:=zF hbox;have HG2:=zF (show w.heap.size≤g2 by rw [hg];exact Nat.le_refl _);replace HB:=zF (below_step HB.out hb);clear hbox hb hg;have z0:=(blk_cell K2.out 0).trans rfl;have z1:=(blk_cell K2.out 1).trans rfl)|(go_at_call 29;(with_reducible refine (cohousingref23_Valid.calls kv A0 c0 F A1 c1 P true _ (Kd.C_below HR0.out HB.out) HC0.out (Kd.C_below HR1.out HB.out) HC1.out HV.out).mono ?_);rintro e w2 ⟨rfl,hb⟩;replace HB:=zF (below_step HB.out hb);replace K2:=zF (blk_below K2.out hb);clear hb z0 z1;have z0:=(blk_cell K2.out 0).trans rfl;have z1:=(blk_cell K2.out 1).trans rfl)|(go_at_call 32;(with_reducible refine (cohousingref24_Order.calls ko A2 c2 ord (P.length:Int) true _ (Kd.C_below HR2.out HB.out) HC2.out HO.out).mono ?_);rintro e w3 ⟨rfl,hd⟩;have hb:=hd.below;replace HB:=zF (below_step HB.out hb);replace K2:=zF (blk_below K2.out hb);clear hb hd z0 z1;have z0:=(blk_cell K2.out 0).trans rfl;have z1:=(blk_cell K2.out 1).trans rfl))
 clear z0 z1 HV HO
 go_cut [7] (fun v7 wc=>∃ (gs:Nat) (AG:Option Addr) (cG:Nat) (AT:Option Addr) (cT:Nat),v7 = .pointer (some ⟨gs,0,none⟩)∧Aside0 (w.heap.size≤gs)∧Aside0 (SR w wc A0 c0 F A1 c1 P A2 c2 ord (.slice AG P.length cG) (.slice AT P.length cT) (.slice none 0 0) (List.replicate P.length false) (List.replicate P.length 0) [])∧Aside0 (wc.heap[gs]? = some (.cells #[.slice A0 F.length c0,.slice A1 P.length c1,.slice A2 ord.length c2,.slice AG P.length cG,.slice AT P.length cT,.slice none 0 0] 81 (0,0)))∧Aside0 (wc.heap[g2]? = some (.cells #[.slice A0 F.length c0,.slice A1 P.length c1] 25 (0,0))))
 case first =>
  refine wp_region_split 12 (fun W=>W.heap[g2]? = some (.cells #[.slice A0 F.length c0,.slice A1 P.length c1] 25 (0,0))) (by kernel_rfl) (by kernel_rfl) ?_
  simp only [List.take_succ_cons,List.take_zero,List.drop_succ_cons,List.drop_zero]
  have HS:Aside0 (w3.drew.heap[g2]? = some (.cells #[.slice A0 F.length c0,.slice A1 P.length c1] 25 (0,0))):=⟨K2.out⟩
  replace HB:Aside0 (Below w.heap.size w w3.drew):=⟨below_drew HB.out⟩
  generalize w3.drew=wx at HS HB ⊢
  refine tK (v:=.agg #[.slice A0 F.length c0,.slice A1 P.length c1]) 0 HS.out (fun w9 h9=>?hy) ?_
  case hy=>(have z0:=(blk_cell h9 0).trans rfl;have z1:=(blk_cell h9 1).trans rfl;go_simp)
  try simp only [Act.put,zA,zB,zC]
  refine tK (v:=.slice A2 ord.length c2) 1 HS.out (fun w9 h9=>?hy) ?_
  case hy=>(skip;go_simp)
  try simp only [Act.put,zA,zB,zC]
  refine tK (v:=.pointer (some ⟨g2,1,none⟩)) 2 HS.out (fun w9 h9=>?hy) ?_
  case hy=>(skip;go_simp)
  try simp only [Act.put,zA,zB,zC]
  refine tK (v:=.slice A1 P.length c1) 3 HS.out (fun w9 h9=>?hy) ?_
  case hy=>(have z0:=(blk_cell h9 0).trans rfl;have z1:=(blk_cell h9 1).trans rfl;go_simp)
  try simp only [Act.put,zA,zB,zC]
  refine tK (v:=.int .i64 P.length) 4 HS.out (fun w9 h9=>?hy) ?_
  case hy=>(skip;go_simp)
  try simp only [Act.put,zA,zB,zC]
  refine tK (v:=.pointer (some ⟨g2,1,none⟩)) 6 HS.out (fun w9 h9=>?hy) ?_
  case hy=>(skip;go_simp)
  try simp only [Act.put,zA,zB,zC]
  refine tK (v:=.slice A1 P.length c1) 7 HS.out (fun w9 h9=>?hy) ?_
  case hy=>(have z0:=(blk_cell h9 0).trans rfl;have z1:=(blk_cell h9 1).trans rfl;go_simp)
  try simp only [Act.put,zA,zB,zC]
  refine tK (v:=.int .i64 P.length) 8 HS.out (fun w9 h9=>?hy) ?_
  case hy=>(skip;go_simp)
  try simp only [Act.put,zA,zB,zC]
  refine wpAnyH_ready (rs:=[5,9,11]) (by kernel_rfl) (by simp) ?_
  refine AllReadyH.cons (by rfl) (fun K hK0=>?_) ?_
  ·
   have hK:=zF (fun (a:Act) (w:World) h1=>hK0.out a w h1)
   clear hK0
   refine step_mkB (by rfl) rfl (.tmp 32) (.tmp 32) rfl P.length (by rfl) (by rfl) hP64 w.heap.size HB.out.size ?_
   intro AG cG v5 hR hb
   have HGn:=zF hR
   clear hR
   replace HS:=zF (blk_below HS.out hb)
   replace HB:=zF (below_step HB.out hb)
   clear hb
   refine hK.out _ _ HS.out (fun _=>?_)
   try simp only [Act.put,zA,zB,zC]
   clear hK K
   refine wpAnyH_ready (rs:=[9,11]) (by kernel_rfl) (by simp) ?_
   refine AllReadyH.cons (by rfl) (fun K hK0=>?_) ?_
   ·
    have hK:=zF (fun (a:Act) (w:World) h1=>hK0.out a w h1)
    clear hK0
    refine step_mkI (by rfl) rfl (.tmp 36) (.tmp 36) rfl P.length (by rfl) (by rfl) hP64 w.heap.size HB.out.size ?_
    intro AT cT v59 hR hb
    have HTo:=zF hR
    clear hR
    replace HGn:=zF (Kd.R_below HGn.out hb)
    replace HS:=zF (blk_below HS.out hb)
    replace HB:=zF (below_step HB.out hb)
    clear hb
    refine hK.out _ _ HS.out (fun _=>?_)
    try simp only [Act.put,zA,zB,zC]
    clear hK K
    refine tK (v:=.agg #[.slice A0 F.length c0,.slice A1 P.length c1,.slice A2 ord.length c2,.slice AG P.length cG,.slice AT P.length cT,.slice none 0 0]) 10 HS.out (fun w9 h9=>?hy) ?_
    case hy=>(skip;go_simp)
    try simp only [Act.put,zA,zB,zC]
    refine wpAnyH_ready (rs:=[11]) (by kernel_rfl) (by simp) ?_
    refine AllReadyH.cons (by rfl) (fun K hK0=>?_) ?_
    ·
     have hK:=zF (fun (a:Act) (w:World) h1=>hK0.out a w h1)
     clear hK0
     rw [if_pos (by rfl)]
     go_simp
     have hb:=below_alloc (Below.refl v59.heap.size v59) (.cells #[.slice none 0 0,.slice none 0 0,.slice none 0 0,.slice none 0 0,.slice none 0 0,.slice none 0 0] 81 (0,0))
     have hbx:=blk_new v59 (.cells #[.slice none 0 0,.slice none 0 0,.slice none 0 0,.slice none 0 0,.slice none 0 0,.slice none 0 0] 81 (0,0))
     have hsz:=HB.out.size
     obtain ⟨gs,hq⟩:∃ q,q=v59.heap.size:=⟨_,rfl⟩
     have HLs:Aside0 (w.heap.size≤gs):=⟨by rw [hq];exact hsz⟩
     rw [← hq] at hbx ⊢
     generalize v59.alloc (.cells #[.slice none 0 0,.slice none 0 0,.slice none 0 0,.slice none 0 0,.slice none 0 0,.slice none 0 0] 81 (0,0))=v5911 at hb hbx ⊢
     have HGs:Aside0 (v5911.heap[gs]? = some (.cells #[.slice none 0 0,.slice none 0 0,.slice none 0 0,.slice none 0 0,.slice none 0 0,.slice none 0 0] 81 (0,0))):=⟨hbx⟩
     clear hbx hq hsz
     replace HGn:=zF (Kd.R_below HGn.out hb)
     replace HTo:=zF (Kd.R_below HTo.out hb)
     replace HS:=zF (blk_below HS.out hb)
     replace HB:=zF (below_step HB.out hb)
     clear hb
     refine hK.out _ _ HS.out (fun _=>?_)
     try simp only [Act.put,zA,zB,zC]
     clear hK K
     refine done_held (by kernel_rfl) ?_
     show wpList _ _ _ _ _ _
     have s0:=(blk_cell HGs.out 0).trans rfl
     have s1:=(blk_cell HGs.out 1).trans rfl
     have s2:=(blk_cell HGs.out 2).trans rfl
     have s3:=(blk_cell HGs.out 3).trans rfl
     have s4:=(blk_cell HGs.out 4).trans rfl
     have s5:=(blk_cell HGs.out 5).trans rfl
     have f0:=blk_frozen HGs.out 0
     have f1:=blk_frozen HGs.out 1
     have f2:=blk_frozen HGs.out 2
     have f3:=blk_frozen HGs.out 3
     have f4:=blk_frozen HGs.out 4
     have f5:=blk_frozen HGs.out 5
     have hSR:SR w v5911 A0 c0 F A1 c1 P A2 c2 ord (.slice AG P.length cG) (.slice AT P.length cT) (.slice none 0 0) (List.replicate P.length false) (List.replicate P.length 0) []:=⟨HB.out,HR0.out,HC0.out,HR1.out,HC1.out,HR2.out,HC2.out,HGn.out,HTo.out,Kd.R_nil _ _ _ _ _,fun k hk=>by simp [Value.ownBlock]⟩
     have HSR:=zF hSR
     clear hSR
     go_wp2
     go_meet
     case rel=>exact st3 HSR.out HGs.out HS.out HLs.out (blk_ne HGs.out HS.out (by decide))
    exact AllReadyH.nil
   refine AllReadyH.cons (by rfl) (fun K hK0=>?_) ?_
   ·
    have hK:=zF (fun (a:Act) (w:World) h1=>hK0.out a w h1)
    clear hK0
    rw [if_pos (by rfl)]
    go_simp
    have hb:=below_alloc (Below.refl v5.heap.size v5) (.cells #[.slice none 0 0,.slice none 0 0,.slice none 0 0,.slice none 0 0,.slice none 0 0,.slice none 0 0] 81 (0,0))
    have hbx:=blk_new v5 (.cells #[.slice none 0 0,.slice none 0 0,.slice none 0 0,.slice none 0 0,.slice none 0 0,.slice none 0 0] 81 (0,0))
    have hsz:=HB.out.size
    obtain ⟨gs,hq⟩:∃ q,q=v5.heap.size:=⟨_,rfl⟩
    have HLs:Aside0 (w.heap.size≤gs):=⟨by rw [hq];exact hsz⟩
    rw [← hq] at hbx ⊢
    generalize v5.alloc (.cells #[.slice none 0 0,.slice none 0 0,.slice none 0 0,.slice none 0 0,.slice none 0 0,.slice none 0 0] 81 (0,0))=v511 at hb hbx ⊢
    have HGs:Aside0 (v511.heap[gs]? = some (.cells #[.slice none 0 0,.slice none 0 0,.slice none 0 0,.slice none 0 0,.slice none 0 0,.slice none 0 0] 81 (0,0))):=⟨hbx⟩
    clear hbx hq hsz
    replace HGn:=zF (Kd.R_below HGn.out hb)
    replace HS:=zF (blk_below HS.out hb)
    replace HB:=zF (below_step HB.out hb)
    clear hb
    refine hK.out _ _ HS.out (fun _=>?_)
    try simp only [Act.put,zA,zB,zC]
    clear hK K
    refine wpAnyH_ready (rs:=[9]) (by kernel_rfl) (by simp) ?_
    refine AllReadyH.cons (by rfl) (fun K hK0=>?_) ?_
    ·
     have hK:=zF (fun (a:Act) (w:World) h1=>hK0.out a w h1)
     clear hK0
     refine step_mkI (by rfl) rfl (.tmp 36) (.tmp 36) rfl P.length (by rfl) (by rfl) hP64 w.heap.size HB.out.size ?_
     intro AT cT v5119 hR hb
     have HTo:=zF hR
     clear hR
     replace HGn:=zF (Kd.R_below HGn.out hb)
     replace HGs:=zF (blk_below HGs.out hb)
     replace HS:=zF (blk_below HS.out hb)
     replace HB:=zF (below_step HB.out hb)
     clear hb
     refine hK.out _ _ HS.out (fun _=>?_)
     try simp only [Act.put,zA,zB,zC]
     clear hK K
     refine tK (v:=.agg #[.slice A0 F.length c0,.slice A1 P.length c1,.slice A2 ord.length c2,.slice AG P.length cG,.slice AT P.length cT,.slice none 0 0]) 10 HS.out (fun w9 h9=>?hy) ?_
     case hy=>(skip;go_simp)
     try simp only [Act.put,zA,zB,zC]
     refine done_held (by kernel_rfl) ?_
     show wpList _ _ _ _ _ _
     have s0:=(blk_cell HGs.out 0).trans rfl
     have s1:=(blk_cell HGs.out 1).trans rfl
     have s2:=(blk_cell HGs.out 2).trans rfl
     have s3:=(blk_cell HGs.out 3).trans rfl
     have s4:=(blk_cell HGs.out 4).trans rfl
     have s5:=(blk_cell HGs.out 5).trans rfl
     have f0:=blk_frozen HGs.out 0
     have f1:=blk_frozen HGs.out 1
     have f2:=blk_frozen HGs.out 2
     have f3:=blk_frozen HGs.out 3
     have f4:=blk_frozen HGs.out 4
     have f5:=blk_frozen HGs.out 5
     have hSR:SR w v5119 A0 c0 F A1 c1 P A2 c2 ord (.slice AG P.length cG) (.slice AT P.length cT) (.slice none 0 0) (List.replicate P.length false) (List.replicate P.length 0) []:=⟨HB.out,HR0.out,HC0.out,HR1.out,HC1.out,HR2.out,HC2.out,HGn.out,HTo.out,Kd.R_nil _ _ _ _ _,fun k hk=>by simp [Value.ownBlock]⟩
     have HSR:=zF hSR
     clear hSR
     go_wp2
     go_meet
     case rel=>exact st3 HSR.out HGs.out HS.out HLs.out (blk_ne HGs.out HS.out (by decide))
    exact AllReadyH.nil
   exact AllReadyH.nil
  refine AllReadyH.cons (by rfl) (fun K hK0=>?_) ?_
  ·
   have hK:=zF (fun (a:Act) (w:World) h1=>hK0.out a w h1)
   clear hK0
   refine step_mkI (by rfl) rfl (.tmp 36) (.tmp 36) rfl P.length (by rfl) (by rfl) hP64 w.heap.size HB.out.size ?_
   intro AT cT v9 hR hb
   have HTo:=zF hR
   clear hR
   replace HS:=zF (blk_below HS.out hb)
   replace HB:=zF (below_step HB.out hb)
   clear hb
   refine hK.out _ _ HS.out (fun _=>?_)
   try simp only [Act.put,zA,zB,zC]
   clear hK K
   refine wpAnyH_ready (rs:=[5,11]) (by kernel_rfl) (by simp) ?_
   refine AllReadyH.cons (by rfl) (fun K hK0=>?_) ?_
   ·
    have hK:=zF (fun (a:Act) (w:World) h1=>hK0.out a w h1)
    clear hK0
    refine step_mkB (by rfl) rfl (.tmp 32) (.tmp 32) rfl P.length (by rfl) (by rfl) hP64 w.heap.size HB.out.size ?_
    intro AG cG v95 hR hb
    have HGn:=zF hR
    clear hR
    replace HTo:=zF (Kd.R_below HTo.out hb)
    replace HS:=zF (blk_below HS.out hb)
    replace HB:=zF (below_step HB.out hb)
    clear hb
    refine hK.out _ _ HS.out (fun _=>?_)
    try simp only [Act.put,zA,zB,zC]
    clear hK K
    refine tK (v:=.agg #[.slice A0 F.length c0,.slice A1 P.length c1,.slice A2 ord.length c2,.slice AG P.length cG,.slice AT P.length cT,.slice none 0 0]) 10 HS.out (fun w9 h9=>?hy) ?_
    case hy=>(skip;go_simp)
    try simp only [Act.put,zA,zB,zC]
    refine wpAnyH_ready (rs:=[11]) (by kernel_rfl) (by simp) ?_
    refine AllReadyH.cons (by rfl) (fun K hK0=>?_) ?_
    ·
     have hK:=zF (fun (a:Act) (w:World) h1=>hK0.out a w h1)
     clear hK0
     rw [if_pos (by rfl)]
     go_simp
     have hb:=below_alloc (Below.refl v95.heap.size v95) (.cells #[.slice none 0 0,.slice none 0 0,.slice none 0 0,.slice none 0 0,.slice none 0 0,.slice none 0 0] 81 (0,0))
     have hbx:=blk_new v95 (.cells #[.slice none 0 0,.slice none 0 0,.slice none 0 0,.slice none 0 0,.slice none 0 0,.slice none 0 0] 81 (0,0))
     have hsz:=HB.out.size
     obtain ⟨gs,hq⟩:∃ q,q=v95.heap.size:=⟨_,rfl⟩
     have HLs:Aside0 (w.heap.size≤gs):=⟨by rw [hq];exact hsz⟩
     rw [← hq] at hbx ⊢
     generalize v95.alloc (.cells #[.slice none 0 0,.slice none 0 0,.slice none 0 0,.slice none 0 0,.slice none 0 0,.slice none 0 0] 81 (0,0))=v9511 at hb hbx ⊢
     have HGs:Aside0 (v9511.heap[gs]? = some (.cells #[.slice none 0 0,.slice none 0 0,.slice none 0 0,.slice none 0 0,.slice none 0 0,.slice none 0 0] 81 (0,0))):=⟨hbx⟩
     clear hbx hq hsz
     replace HTo:=zF (Kd.R_below HTo.out hb)
     replace HGn:=zF (Kd.R_below HGn.out hb)
     replace HS:=zF (blk_below HS.out hb)
     replace HB:=zF (below_step HB.out hb)
     clear hb
     refine hK.out _ _ HS.out (fun _=>?_)
     try simp only [Act.put,zA,zB,zC]
     clear hK K
     refine done_held (by kernel_rfl) ?_
     show wpList _ _ _ _ _ _
     have s0:=(blk_cell HGs.out 0).trans rfl
     have s1:=(blk_cell HGs.out 1).trans rfl
     have s2:=(blk_cell HGs.out 2).trans rfl
     have s3:=(blk_cell HGs.out 3).trans rfl
     have s4:=(blk_cell HGs.out 4).trans rfl
     have s5:=(blk_cell HGs.out 5).trans rfl
     have f0:=blk_frozen HGs.out 0
     have f1:=blk_frozen HGs.out 1
     have f2:=blk_frozen HGs.out 2
     have f3:=blk_frozen HGs.out 3
     have f4:=blk_frozen HGs.out 4
     have f5:=blk_frozen HGs.out 5
     have hSR:SR w v9511 A0 c0 F A1 c1 P A2 c2 ord (.slice AG P.length cG) (.slice AT P.length cT) (.slice none 0 0) (List.replicate P.length false) (List.replicate P.length 0) []:=⟨HB.out,HR0.out,HC0.out,HR1.out,HC1.out,HR2.out,HC2.out,HGn.out,HTo.out,Kd.R_nil _ _ _ _ _,fun k hk=>by simp [Value.ownBlock]⟩
     have HSR:=zF hSR
     clear hSR
     go_wp2
     go_meet
     case rel=>exact st3 HSR.out HGs.out HS.out HLs.out (blk_ne HGs.out HS.out (by decide))
    exact AllReadyH.nil
   refine AllReadyH.cons (by rfl) (fun K hK0=>?_) ?_
   ·
    have hK:=zF (fun (a:Act) (w:World) h1=>hK0.out a w h1)
    clear hK0
    rw [if_pos (by rfl)]
    go_simp
    have hb:=below_alloc (Below.refl v9.heap.size v9) (.cells #[.slice none 0 0,.slice none 0 0,.slice none 0 0,.slice none 0 0,.slice none 0 0,.slice none 0 0] 81 (0,0))
    have hbx:=blk_new v9 (.cells #[.slice none 0 0,.slice none 0 0,.slice none 0 0,.slice none 0 0,.slice none 0 0,.slice none 0 0] 81 (0,0))
    have hsz:=HB.out.size
    obtain ⟨gs,hq⟩:∃ q,q=v9.heap.size:=⟨_,rfl⟩
    have HLs:Aside0 (w.heap.size≤gs):=⟨by rw [hq];exact hsz⟩
    rw [← hq] at hbx ⊢
    generalize v9.alloc (.cells #[.slice none 0 0,.slice none 0 0,.slice none 0 0,.slice none 0 0,.slice none 0 0,.slice none 0 0] 81 (0,0))=v911 at hb hbx ⊢
    have HGs:Aside0 (v911.heap[gs]? = some (.cells #[.slice none 0 0,.slice none 0 0,.slice none 0 0,.slice none 0 0,.slice none 0 0,.slice none 0 0] 81 (0,0))):=⟨hbx⟩
    clear hbx hq hsz
    replace HTo:=zF (Kd.R_below HTo.out hb)
    replace HS:=zF (blk_below HS.out hb)
    replace HB:=zF (below_step HB.out hb)
    clear hb
    refine hK.out _ _ HS.out (fun _=>?_)
    try simp only [Act.put,zA,zB,zC]
    clear hK K
    refine wpAnyH_ready (rs:=[5]) (by kernel_rfl) (by simp) ?_
    refine AllReadyH.cons (by rfl) (fun K hK0=>?_) ?_
    ·
     have hK:=zF (fun (a:Act) (w:World) h1=>hK0.out a w h1)
     clear hK0
     refine step_mkB (by rfl) rfl (.tmp 32) (.tmp 32) rfl P.length (by rfl) (by rfl) hP64 w.heap.size HB.out.size ?_
     intro AG cG v9115 hR hb
     have HGn:=zF hR
     clear hR
     replace HTo:=zF (Kd.R_below HTo.out hb)
     replace HGs:=zF (blk_below HGs.out hb)
     replace HS:=zF (blk_below HS.out hb)
     replace HB:=zF (below_step HB.out hb)
     clear hb
     refine hK.out _ _ HS.out (fun _=>?_)
     try simp only [Act.put,zA,zB,zC]
     clear hK K
     refine tK (v:=.agg #[.slice A0 F.length c0,.slice A1 P.length c1,.slice A2 ord.length c2,.slice AG P.length cG,.slice AT P.length cT,.slice none 0 0]) 10 HS.out (fun w9 h9=>?hy) ?_
     case hy=>(skip;go_simp)
     try simp only [Act.put,zA,zB,zC]
     refine done_held (by kernel_rfl) ?_
     show wpList _ _ _ _ _ _
     have s0:=(blk_cell HGs.out 0).trans rfl
     have s1:=(blk_cell HGs.out 1).trans rfl
     have s2:=(blk_cell HGs.out 2).trans rfl
     have s3:=(blk_cell HGs.out 3).trans rfl
     have s4:=(blk_cell HGs.out 4).trans rfl
     have s5:=(blk_cell HGs.out 5).trans rfl
     have f0:=blk_frozen HGs.out 0
     have f1:=blk_frozen HGs.out 1
     have f2:=blk_frozen HGs.out 2
     have f3:=blk_frozen HGs.out 3
     have f4:=blk_frozen HGs.out 4
     have f5:=blk_frozen HGs.out 5
     have hSR:SR w v9115 A0 c0 F A1 c1 P A2 c2 ord (.slice AG P.length cG) (.slice AT P.length cT) (.slice none 0 0) (List.replicate P.length false) (List.replicate P.length 0) []:=⟨HB.out,HR0.out,HC0.out,HR1.out,HC1.out,HR2.out,HC2.out,HGn.out,HTo.out,Kd.R_nil _ _ _ _ _,fun k hk=>by simp [Value.ownBlock]⟩
     have HSR:=zF hSR
     clear hSR
     go_wp2
     go_meet
     case rel=>exact st3 HSR.out HGs.out HS.out HLs.out (blk_ne HGs.out HS.out (by decide))
    exact AllReadyH.nil
   exact AllReadyH.nil
  refine AllReadyH.cons (by rfl) (fun K hK0=>?_) ?_
  ·
   have hK:=zF (fun (a:Act) (w:World) h1=>hK0.out a w h1)
   clear hK0
   rw [if_pos (by rfl)]
   go_simp
   have hb:=below_alloc (Below.refl wx.heap.size wx) (.cells #[.slice none 0 0,.slice none 0 0,.slice none 0 0,.slice none 0 0,.slice none 0 0,.slice none 0 0] 81 (0,0))
   have hbx:=blk_new wx (.cells #[.slice none 0 0,.slice none 0 0,.slice none 0 0,.slice none 0 0,.slice none 0 0,.slice none 0 0] 81 (0,0))
   have hsz:=HB.out.size
   obtain ⟨gs,hq⟩:∃ q,q=wx.heap.size:=⟨_,rfl⟩
   have HLs:Aside0 (w.heap.size≤gs):=⟨by rw [hq];exact hsz⟩
   rw [← hq] at hbx ⊢
   generalize wx.alloc (.cells #[.slice none 0 0,.slice none 0 0,.slice none 0 0,.slice none 0 0,.slice none 0 0,.slice none 0 0] 81 (0,0))=v11 at hb hbx ⊢
   have HGs:Aside0 (v11.heap[gs]? = some (.cells #[.slice none 0 0,.slice none 0 0,.slice none 0 0,.slice none 0 0,.slice none 0 0,.slice none 0 0] 81 (0,0))):=⟨hbx⟩
   clear hbx hq hsz
   replace HS:=zF (blk_below HS.out hb)
   replace HB:=zF (below_step HB.out hb)
   clear hb
   refine hK.out _ _ HS.out (fun _=>?_)
   try simp only [Act.put,zA,zB,zC]
   clear hK K
   refine wpAnyH_ready (rs:=[5,9]) (by kernel_rfl) (by simp) ?_
   refine AllReadyH.cons (by rfl) (fun K hK0=>?_) ?_
   ·
    have hK:=zF (fun (a:Act) (w:World) h1=>hK0.out a w h1)
    clear hK0
    refine step_mkB (by rfl) rfl (.tmp 32) (.tmp 32) rfl P.length (by rfl) (by rfl) hP64 w.heap.size HB.out.size ?_
    intro AG cG v115 hR hb
    have HGn:=zF hR
    clear hR
    replace HGs:=zF (blk_below HGs.out hb)
    replace HS:=zF (blk_below HS.out hb)
    replace HB:=zF (below_step HB.out hb)
    clear hb
    refine hK.out _ _ HS.out (fun _=>?_)
    try simp only [Act.put,zA,zB,zC]
    clear hK K
    refine wpAnyH_ready (rs:=[9]) (by kernel_rfl) (by simp) ?_
    refine AllReadyH.cons (by rfl) (fun K hK0=>?_) ?_
    ·
     have hK:=zF (fun (a:Act) (w:World) h1=>hK0.out a w h1)
     clear hK0
     refine step_mkI (by rfl) rfl (.tmp 36) (.tmp 36) rfl P.length (by rfl) (by rfl) hP64 w.heap.size HB.out.size ?_
     intro AT cT v1159 hR hb
     have HTo:=zF hR
     clear hR
     replace HGs:=zF (blk_below HGs.out hb)
     replace HGn:=zF (Kd.R_below HGn.out hb)
     replace HS:=zF (blk_below HS.out hb)
     replace HB:=zF (below_step HB.out hb)
     clear hb
     refine hK.out _ _ HS.out (fun _=>?_)
     try simp only [Act.put,zA,zB,zC]
     clear hK K
     refine tK (v:=.agg #[.slice A0 F.length c0,.slice A1 P.length c1,.slice A2 ord.length c2,.slice AG P.length cG,.slice AT P.length cT,.slice none 0 0]) 10 HS.out (fun w9 h9=>?hy) ?_
     case hy=>(skip;go_simp)
     try simp only [Act.put,zA,zB,zC]
     refine done_held (by kernel_rfl) ?_
     show wpList _ _ _ _ _ _
     have s0:=(blk_cell HGs.out 0).trans rfl
     have s1:=(blk_cell HGs.out 1).trans rfl
     have s2:=(blk_cell HGs.out 2).trans rfl
     have s3:=(blk_cell HGs.out 3).trans rfl
     have s4:=(blk_cell HGs.out 4).trans rfl
     have s5:=(blk_cell HGs.out 5).trans rfl
     have f0:=blk_frozen HGs.out 0
     have f1:=blk_frozen HGs.out 1
     have f2:=blk_frozen HGs.out 2
     have f3:=blk_frozen HGs.out 3
     have f4:=blk_frozen HGs.out 4
     have f5:=blk_frozen HGs.out 5
     have hSR:SR w v1159 A0 c0 F A1 c1 P A2 c2 ord (.slice AG P.length cG) (.slice AT P.length cT) (.slice none 0 0) (List.replicate P.length false) (List.replicate P.length 0) []:=⟨HB.out,HR0.out,HC0.out,HR1.out,HC1.out,HR2.out,HC2.out,HGn.out,HTo.out,Kd.R_nil _ _ _ _ _,fun k hk=>by simp [Value.ownBlock]⟩
     have HSR:=zF hSR
     clear hSR
     go_wp2
     go_meet
     case rel=>exact st3 HSR.out HGs.out HS.out HLs.out (blk_ne HGs.out HS.out (by decide))
    exact AllReadyH.nil
   refine AllReadyH.cons (by rfl) (fun K hK0=>?_) ?_
   ·
    have hK:=zF (fun (a:Act) (w:World) h1=>hK0.out a w h1)
    clear hK0
    refine step_mkI (by rfl) rfl (.tmp 36) (.tmp 36) rfl P.length (by rfl) (by rfl) hP64 w.heap.size HB.out.size ?_
    intro AT cT v119 hR hb
    have HTo:=zF hR
    clear hR
    replace HGs:=zF (blk_below HGs.out hb)
    replace HS:=zF (blk_below HS.out hb)
    replace HB:=zF (below_step HB.out hb)
    clear hb
    refine hK.out _ _ HS.out (fun _=>?_)
    try simp only [Act.put,zA,zB,zC]
    clear hK K
    refine wpAnyH_ready (rs:=[5]) (by kernel_rfl) (by simp) ?_
    refine AllReadyH.cons (by rfl) (fun K hK0=>?_) ?_
    ·
     have hK:=zF (fun (a:Act) (w:World) h1=>hK0.out a w h1)
     clear hK0
     refine step_mkB (by rfl) rfl (.tmp 32) (.tmp 32) rfl P.length (by rfl) (by rfl) hP64 w.heap.size HB.out.size ?_
     intro AG cG v1195 hR hb
     have HGn:=zF hR
     clear hR
     replace HGs:=zF (blk_below HGs.out hb)
     replace HTo:=zF (Kd.R_below HTo.out hb)
     replace HS:=zF (blk_below HS.out hb)
     replace HB:=zF (below_step HB.out hb)
     clear hb
     refine hK.out _ _ HS.out (fun _=>?_)
     try simp only [Act.put,zA,zB,zC]
     clear hK K
     refine tK (v:=.agg #[.slice A0 F.length c0,.slice A1 P.length c1,.slice A2 ord.length c2,.slice AG P.length cG,.slice AT P.length cT,.slice none 0 0]) 10 HS.out (fun w9 h9=>?hy) ?_
     case hy=>(skip;go_simp)
     try simp only [Act.put,zA,zB,zC]
     refine done_held (by kernel_rfl) ?_
     show wpList _ _ _ _ _ _
     have s0:=(blk_cell HGs.out 0).trans rfl
     have s1:=(blk_cell HGs.out 1).trans rfl
     have s2:=(blk_cell HGs.out 2).trans rfl
     have s3:=(blk_cell HGs.out 3).trans rfl
     have s4:=(blk_cell HGs.out 4).trans rfl
     have s5:=(blk_cell HGs.out 5).trans rfl
     have f0:=blk_frozen HGs.out 0
     have f1:=blk_frozen HGs.out 1
     have f2:=blk_frozen HGs.out 2
     have f3:=blk_frozen HGs.out 3
     have f4:=blk_frozen HGs.out 4
     have f5:=blk_frozen HGs.out 5
     have hSR:SR w v1195 A0 c0 F A1 c1 P A2 c2 ord (.slice AG P.length cG) (.slice AT P.length cT) (.slice none 0 0) (List.replicate P.length false) (List.replicate P.length 0) []:=⟨HB.out,HR0.out,HC0.out,HR1.out,HC1.out,HR2.out,HC2.out,HGn.out,HTo.out,Kd.R_nil _ _ _ _ _,fun k hk=>by simp [Value.ownBlock]⟩
     have HSR:=zF hSR
     clear hSR
     go_wp2
     go_meet
     case rel=>exact st3 HSR.out HGs.out HS.out HLs.out (blk_ne HGs.out HS.out (by decide))
    exact AllReadyH.nil
   exact AllReadyH.nil
  exact AllReadyH.nil
 case rest =>
  obtain ⟨gs,AG,cG,AT,cT,rfl,HLs,HS,KS,KM⟩:=hcut
  clear K2
  have HNe:Aside0 (g2≠gs):=⟨blk_ne KM.out KS.out (by decide)⟩
  have RG0:Aside0 (Kd.S k47 47 wc w.heap.size (fun _=>True) (.slice none 0 0) []):=⟨Kd.S_nil _ _ _ _ _⟩
  have HLv:=zF (rleave_calls HS.out HF.out (T.inv0 hwf) (rb_start P ord))
  have s0:=(blk_cell KS.out 0).trans rfl
  have s1:=(blk_cell KS.out 1).trans rfl
  have s2:=(blk_cell KS.out 2).trans rfl
  have s3:=(blk_cell KS.out 3).trans rfl
  have s4:=(blk_cell KS.out 4).trans rfl
  have s5:=(blk_cell KS.out 5).trans rfl
  go_wp2_with (first|(go_at_call 47;(with_reducible refine HLv.out.mono ?_);rintro e w11a ⟨rfl,gn1,hS,hB,hg⟩;have HSa:=zF hS;have HB1:=zF hB;have KSa:=zF (blk_grown KS.out hg (Kd.R_ne HS.out.G KS.out (by decide)));have KMa:=zF (blk_grown KM.out hg (Kd.R_ne HS.out.G KM.out (by decide)));have RGa:=zF (S_ty RG0.out (ty_grown hg (Kd.R_typed HS.out.G) (by decide) (by decide)));clear hS hB hg;clear s0 s1 s2 s3 s4 s5;have s0:=(blk_cell KSa.out 0).trans rfl;have s1:=(blk_cell KSa.out 1).trans rfl;have s2:=(blk_cell KSa.out 2).trans rfl;have s3:=(blk_cell KSa.out 3).trans rfl;have s4:=(blk_cell KSa.out 4).trans rfl;have s5:=(blk_cell KSa.out 5).trans rfl;have f0:=blk_frozen KSa.out 0;have f1:=blk_frozen KSa.out 1;have f2:=blk_frozen KSa.out 2;have f3:=blk_frozen KSa.out 3;have f4:=blk_frozen KSa.out 4;have f5:=blk_frozen KSa.out 5)|((with_reducible refine gate_store (t:=81) (p:=7) rfl ?_);refine store_event (t:=81) (p:=7) (v:=?vo) (w1:=((((((w11a.setCell ⟨gs,0,none⟩ (.slice A0 F.length c0)).setCell ⟨gs,1,none⟩ (.slice A1 P.length c1)).setCell ⟨gs,2,none⟩ (.slice A2 ord.length c2)).setCell ⟨gs,3,none⟩ (.slice AG P.length cG)).setCell ⟨gs,4,none⟩ (.slice AT P.length cT)).setCell ⟨gs,5,none⟩ (.slice none 0 0))) ?hg ?ho ?hn ?hr ?_;(case ho=>rfl);(case hg=>rfl);(case hn=>rfl);(case hr=>first|(go_simp;done)|(go_simp;rfl));intro w11 hw;(obtain ⟨h1,h2,h3⟩:=st4 HSa.out KSa.out HLs.out hw);clear hw;have HS1:=zF h1;have KS1:=zF h2;have KM1:=zF ((h3 g2 HNe.out).trans KMa.out);have RG1:=zF (S_ty RGa.out (ty_far KSa.out (by decide) (by decide) h3));clear h1 h2 h3;clear s0 s1 s2 s3 s4 s5;clear f0 f1 f2 f3 f4 f5))
  have HRun:=zF (run_start HF.out)
  clear HS KS KM RG0 HLv HSa KSa KMa RGa HB HR0 HR1 HR2 HC0 HC1 HC2 HG2
  go_loopg [8] (T.left (datG P ord) (T.start (datG P ord)).A) (fun gk v8 w'=>∃ (t:T.St) (gn:List Bool) (ts tk:List Int) (vK:Value),Aside0 (gk=T.left (datG P ord) t.A)∧Aside0 (RunAt P ord t tk)∧Aside0 (RB P ord gn ts tk t.A)∧Aside0 (SR w w' A0 c0 F A1 c1 P A2 c2 ord (.slice AG P.length cG) (.slice AT P.length cT) vK gn ts tk)∧Aside0 (w'.heap[gs]? = some (.cells #[.slice A0 F.length c0,.slice A1 P.length c1,.slice A2 ord.length c2,.slice AG P.length cG,.slice AT P.length cT,vK] 81 (0,0)))∧Aside0 (w'.heap[g2]? = some (.cells #[.slice A0 F.length c0,.slice A1 P.length c1] 25 (0,0)))∧Aside0 (Kd.S k47 47 w' w.heap.size (fun _=>True) v8 (t.l.map (ringOf P t.A))))
  case atStart=>exact ⟨T.start (datG P ord),gn1,_,[],.slice none 0 0,⟨rfl⟩,HRun,HB1,HS1,KS1,KM1,RG1⟩
  case round =>
   clear HRun HB1 HS1 KS1 KM1 RG1
   obtain ⟨t,gn,ts,tk,vK,HGk,HRun,HB,HS,KS,KM,RG⟩:=hrel
   have HFi:=zF (first_calls2 HS.out HF.out HB.out)
   have s0:=(blk_cell KS.out 0).trans rfl
   have s1:=(blk_cell KS.out 1).trans rfl
   have s2:=(blk_cell KS.out 2).trans rfl
   have s3:=(blk_cell KS.out 3).trans rfl
   have s4:=(blk_cell KS.out 4).trans rfl
   have s5:=(blk_cell KS.out 5).trans rfl
   cases he:(datG P ord).order.find? fun p=>(t.A p).isNone with
   | none =>
    rw [he] at HFi
    go_wp2_with (go_at_call 48;(with_reducible refine HFi.out.mono ?_);rintro e w20 ⟨rfl,hb⟩;have HS2:=zF (HS.out.kept hb);have KS2:=zF (blk_below KS.out hb);have KM2:=zF (blk_below KM.out hb);have RG2:=zF (Kd.S_below RG.out hb);clear hb HS KS KM RG;clear s0 s1 s2 s3 s4 s5;have s0:=(blk_cell KS2.out 0).trans rfl;have s1:=(blk_cell KS2.out 1).trans rfl;have s2:=(blk_cell KS2.out 2).trans rfl;have s3:=(blk_cell KS2.out 3).trans rfl;have s4:=(blk_cell KS2.out 4).trans rfl;have s5:=(blk_cell KS2.out 5).trans rfl)
    have HNil:Aside0 (Kd.R k39 39 w20 w20.heap.size (fun _=>True) (.slice none 0 0) ((List.range 0).map (outAt P ts))):=⟨Kd.R_nil _ _ _ _ _⟩
    have HB20:=zF (Below.refl w20.heap.size w20)
    clear s0 s1 s2 s3 s4 s5
    go_loopg [15,16] P.length (fun gk v15 v16 w'=>∃ i:Nat,v16 = .int .i64 i∧Aside0 (i≤P.length∧gk=P.length - i)∧Aside0 (Kd.R k39 39 w' w20.heap.size (fun _=>True) v15 ((List.range i).map (outAt P ts)))∧Aside0 (Below w20.heap.size w20 w'))
    case atStart=>exact ⟨0,rfl,⟨Nat.zero_le _,rfl⟩,HNil,HB20⟩
    case round =>
     clear HNil HB20
     obtain ⟨i,rfl,HI,HM,HBr⟩:=hrel
     have hi:=HI.out.1
     have HSr:=zF (HS2.out.kept HBr.out)
     have z1:=(blk_cell (blk_below KM2.out HBr.out) 1).trans rfl
     by_cases hlt:i < P.length
     ·
      have hlt':(i:Int) < (P.length:Int):=by omega
      have HLT:=zF hlt
      obtain ⟨ad,A3,c3,e,x0,x1,x2,l2,gg2⟩:=at_T41 HSr.out.parW (i:Int) (by omega) (by omega)
      cases e
      simp only [Int.toNat_natCast] at x0 x1
      obtain ⟨eT,lT,rT⟩:=Kd.R_reads' HSr.out.T
      obtain ⟨at_,e,y⟩:=intC_at rT (i:=i) (by omega)
      cases e
      have HX:=zF (And.intro x0 (And.intro x1 y))
      have HZ:Aside0 (wr.cell? ⟨g2,1,none⟩=some (.slice (some ad) P.length c1)):=⟨z1⟩
      have HZ3:Aside0 (wr.cell? ⟨gs,4,none⟩=some (.slice (some at_) P.length cT)):=⟨(blk_cell (blk_below KS2.out HBr.out) 4).trans rfl⟩
      have HOA:Aside0 (outAt P ts i=⟨(rd_T41 P (i:Int)).f0,(rd_T41 P (i:Int)).f1,rd ts (i:Int)⟩):=⟨rfl⟩
      generalize (rd_T41 P (i:Int)).f0=q0 at *
      generalize (rd_T41 P (i:Int)).f1=q1 at *
      generalize rd ts (i:Int)=q2 at *
      clear x2 l2 gg2 rT lT eT x0 x1 y
      go_upto_region 30 with (fail)
      clear z1
      refine wp_region_split 20 (fun W=>Below wr.heap.size wr W) (by kernel_rfl) (by kernel_rfl) ?_
      simp only [List.take_succ_cons,List.take_zero,List.drop_succ_cons,List.drop_zero]
      have HS:Below wr.heap.size wr wr.drew:=below_drew (Below.refl _ _)
      generalize wr.drew=wx at HS ⊢
      refine tK (v:=u15) 0 HS (fun w9 h9=>?hy) ?_
      case hy=>(skip;go_simp)
      try simp only [Act.put,zA,zB,zC]
      refine tK (v:=.pointer (some ⟨g2,1,none⟩)) 1 HS (fun w9 h9=>?hy) ?_
      case hy=>(skip;go_simp)
      try simp only [Act.put,zA,zB,zC]
      refine tK (v:=.slice (some ad) P.length c1) 2 HS (fun w9 h9=>?hy) ?_
      case hy=>(have y1:=pw_cell_below h9 HZ.out;go_simp)
      try simp only [Act.put,zA,zB,zC]
      refine tK (v:=.int .i64 i) 3 HS (fun w9 h9=>?hy) ?_
      case hy=>(skip;go_simp)
      try simp only [Act.put,zA,zB,zC]
      refine tK (v:=.pointer (some (ad.add (i * 3)))) 4 HS (fun w9 h9=>?hy) ?_
      case hy=>(skip;go_simp)
      try simp only [Act.put,zA,zB,zC]
      refine tK (v:=.pointer (some (ad.add (i * 3)))) 5 HS (fun w9 h9=>?hy) ?_
      case hy=>(skip;go_simp)
      try simp only [Act.put,zA,zB,zC]
      refine tK (v:=.int .i64 q0) 6 HS (fun w9 h9=>?hy) ?_
      case hy=>(have y1:=pw_cell_below h9 HX.out.1;go_simp)
      try simp only [Act.put,zA,zB,zC]
      refine tK (v:=.pointer (some ⟨g2,1,none⟩)) 7 HS (fun w9 h9=>?hy) ?_
      case hy=>(skip;go_simp)
      try simp only [Act.put,zA,zB,zC]
      refine tK (v:=.slice (some ad) P.length c1) 8 HS (fun w9 h9=>?hy) ?_
      case hy=>(have y1:=pw_cell_below h9 HZ.out;go_simp)
      try simp only [Act.put,zA,zB,zC]
      refine tK (v:=.int .i64 i) 9 HS (fun w9 h9=>?hy) ?_
      case hy=>(skip;go_simp)
      try simp only [Act.put,zA,zB,zC]
      refine tK (v:=.pointer (some (ad.add (i * 3)))) 10 HS (fun w9 h9=>?hy) ?_
      case hy=>(skip;go_simp)
      try simp only [Act.put,zA,zB,zC]
      refine tK (v:=.pointer (some ⟨(ad.add (i * 3)).block,(ad.add (i * 3)).off + 1,none⟩)) 11 HS (fun w9 h9=>?hy) ?_
      case hy=>(skip;go_simp)
      try simp only [Act.put,zA,zB,zC]
      refine tK (v:=.int .i64 q1) 12 HS (fun w9 h9=>?hy) ?_
      case hy=>(have y1:=pw_cell_below h9 HX.out.2.1;go_simp)
      try simp only [Act.put,zA,zB,zC]
      refine tK (v:=.pointer (some ⟨gs,4,none⟩)) 13 HS (fun w9 h9=>?hy) ?_
      case hy=>(skip;go_simp)
      try simp only [Act.put,zA,zB,zC]
      refine tK (v:=.slice (some at_) P.length cT) 14 HS (fun w9 h9=>?hy) ?_
      case hy=>(have y1:=pw_cell_below h9 HZ3.out;go_simp)
      try simp only [Act.put,zA,zB,zC]
      refine tK (v:=.int .i64 i) 15 HS (fun w9 h9=>?hy) ?_
      case hy=>(skip;go_simp)
      try simp only [Act.put,zA,zB,zC]
      refine tK (v:=.pointer (some (at_.add i))) 16 HS (fun w9 h9=>?hy) ?_
      case hy=>(skip;go_simp)
      try simp only [Act.put,zA,zB,zC]
      refine tK (v:=.int .i64 q2) 17 HS (fun w9 h9=>?hy) ?_
      case hy=>(have y1:=pw_cell_below h9 HX.out.2.2;go_simp)
      try simp only [Act.put,zA,zB,zC]
      refine tK (v:=.agg #[.int .i64 q0,.int .i64 q1,.int .i64 q2]) 18 HS (fun w9 h9=>?hy) ?_
      case hy=>(skip;go_simp)
      try simp only [Act.put,zA,zB,zC]
      refine only_held 19 rfl (by kernel_rfl) (fun K hK=>?_)
      rw [if_pos (by rfl)]
      go_simp
      have HSx:=zF HS
      replace HS:=below_alloc HS (.cells #[.int .i64 q0,.int .i64 q1,.int .i64 q2] 39)
      refine hK.out _ _ HS ?_
      try simp only [Act.put,zA,zB,zC]
      clear hK K
      refine done_held (by kernel_rfl) ?_
      clear HS
      show wpList _ _ _ _ _ _
      have HB9:=zF (below_step HBr.out HSx.out)
      have HM9:=zF (Kd.R_below HM.out HSx.out)
      have hb9s:=HB9.out.size
      have hlen:((List.range i).map (outAt P ts)).length=i:=by simp
      go_wp2_with ((with_reducible refine gate_builtin (b:=.append) (xs:=#[.tmp 134,.tmp 153]) rfl ?_);at_builtin;refine Kd.R_append k39 (w0:=w20) w20.heap.size rfl (.tmp 134) (.tmp 153) 29 39 (.agg #[(.int .i64 0),(.int .i64 0),(.int .i64 0)]) 24 rfl Try.underlying29 info39 rfl (by decide) (by omega) u15 ((List.range i).map (outAt P ts)) ⟨q0,q1,q2⟩ [.int .i64 q0,.int .i64 q1,.int .i64 q2] (fun _=>True) (fun _=>False) rfl rfl (k39_mkM _ _ _ _) (fun _ hk=>hk.elim) (fun _ _=>trivial) HM9.out HB9.out hb9s (by rw [hlen];omega) ?_;intro v4 w4 ho hb hg hat;have HO4:=zF ho;have HB4:=zF hb;clear ho hb hg hat)
      go_roundg (P.length - (i + 1))
      case measure=>have:=HI.out;have:=HLT.out;omega
      case rel=>exact ⟨i + 1,by go_num,⟨by have:=HLT.out;omega,rfl⟩,⟨by rw [List.range_succ,List.map_append,List.map_singleton,HOA.out];exact HO4.out⟩,HB4⟩
     ·
      obtain rfl:i=P.length:=by omega
      go_wp2
      go_ret3
      have ht:=run_end HRun.out he
      subst ht
      have hto:=tos_final HF.out HB.out
      have hm:=moves_final P ts
      refine ⟨_,_,rfl,?_,?_,HSr.out.below⟩
      ·
       rw [← hto,← hm];exact Kd.R_lower HM.out HS2.out.below.size
      ·
       rw [rings_final HF.out];exact Kd.S_mono (Kd.S_old RG2.out HBr.out) (fun k hk e=>by have h1:=Kd.R_base HM.out k e.symm;have h2:=hk.2;omega)
   | some p0 =>
    rw [he] at HFi
    have q0:decide ((0:Int)≤natZ (some p0))=true:=decide_eq_true (by unfold natZ;simp)
    obtain ⟨C,q,j,hc,hcy,hnd,hco,hit,hc0,hc64⟩:=run_cyc HF.out HRun.out he
    have HC1:Aside0 (((ord.map Int.toNat).drop 0).findSome? (fcF P ord t.A)=some C):=⟨by rw [List.drop_zero];exact hc⟩
    have HCc:=zF hc
    have HCy:=zF hcy
    have HNd:=zF hnd
    have HOb:=zF hco
    have HIt:=zF hit
    have HC0:=zF hc0
    have HC64:=zF hc64
    have HP0:=zF he
    have hil:0 < (ints C).length∧(ints C).length≤64:=⟨by rw [ints_len];exact hc0,by rw [ints_len];exact hc64⟩
    have HIL:=zF hil
    clear hc hcy hnd hco hit hc0 hc64 he hil
    go_upto_block 2 with (go_at_call 48;(with_reducible refine HFi.out.mono ?_);rintro e w20 ⟨rfl,hb⟩;have HS2:=zF (HS.out.kept hb);have KS2:=zF (blk_below KS.out hb);have KM2:=zF (blk_below KM.out hb);have RG2:=zF (Kd.S_below RG.out hb);clear hb HS KS KM RG;clear s0 s1 s2 s3 s4 s5;have s0:=(blk_cell KS2.out 0).trans rfl;have s1:=(blk_cell KS2.out 1).trans rfl;have s2:=(blk_cell KS2.out 2).trans rfl;have s3:=(blk_cell KS2.out 3).trans rfl;have s4:=(blk_cell KS2.out 4).trans rfl;have s5:=(blk_cell KS2.out 5).trans rfl)
    clear s0 s1 s2 s3 s4 s5 HFi
    go_cut [9] (fun v9 wc=>∃ (A9:Option Addr) (c9:Nat),v9 = .slice A9 (ints C).length c9∧Aside0 (Kd.R (Kd.int .i64) 3 wc w20.heap.size (fun _=>True) (.slice A9 (ints C).length c9) (ints C))∧Aside0 (Below w20.heap.size w20 wc))
    case first =>
     have HB20:=zF (Below.refl w20.heap.size w20)
     have HNil:Aside0 (Kd.R (Kd.int .i64) 3 w20 w20.heap.size (fun _=>True) (.slice none ([]:List Int).length 0) []):=⟨Kd.R_nil _ _ _ _ _⟩
     go_wp2
     go_loopg [9,10] ord.length (fun gk v9 v10 w'=>∃ (i:Nat) (A9:Option Addr) (c9:Nat) (L:List Int),v10 = .int .i64 i∧v9 = .slice A9 L.length c9∧Aside0 (i≤ord.length∧gk=ord.length - i)∧Aside0 (Kd.R (Kd.int .i64) 3 w' w20.heap.size (fun _=>True) (.slice A9 L.length c9) L)∧Aside0 (Below w20.heap.size w20 w')∧Aside0 ((L=[]∧((ord.map Int.toNat).drop i).findSome? (fcF P ord t.A)=some C) ∨ L=ints C))
     case atStart=>exact ⟨0,none,0,[],rfl,rfl,⟨Nat.zero_le _,rfl⟩,HNil,HB20,⟨.inl ⟨rfl,HC1.out⟩⟩⟩
     case round =>
      clear HNil HB20
      obtain ⟨i,A9,c9,L,rfl,rfl,HI,HR9,HBr,HOr⟩:=hrel
      have hi:=HI.out.1
      have hol:=HOL.out
      by_cases hL:L=ints C
      ·
       subst hL
       have hpl:=HIL.out.1
       have r0:decide ((ints C).length=0)=false:=decide_eq_false (by omega)
       have r1:(((ints C).length:Int) == 0)=false:=by rw [beq_eq_false_iff_ne];omega
       have r2:decide (((ints C).length:Int)=0)=false:=decide_eq_false (by omega)
       by_cases hlt:i < ord.length
       ·
        have hlt':(i:Int) < (ord.length:Int):=by omega
        go_wp2
        go_meet
        case rel=>exact ⟨A9,c9,rfl,HR9,HBr⟩
       ·
        have hlt':¬ (i:Int) < (ord.length:Int):=by omega
        go_wp2
        go_meet
        case rel=>exact ⟨A9,c9,rfl,HR9,HBr⟩
      ·
       obtain ⟨rfl,hf⟩:=HOr.out.resolve_right hL
       have hlt:i < ord.length:=by
        rcases Nat.lt_or_ge i ord.length with h|h
        ·
         exact h
        ·
         rw [List.drop_eq_nil_of_le (by simpa using h)] at hf;cases hf
       have hlt':(i:Int) < (ord.length:Int):=by omega
       have HLT:=zF hlt
       rw [fc_at hlt] at hf
       have HSr:=zF (HS2.out.kept HBr.out)
       have KSr:=zF (blk_below KS2.out HBr.out)
       obtain ⟨q0_,q1_⟩:=HF.out.ob _ (rd_mem hlt)
       obtain ⟨ao,e,y⟩:=intC_at HSr.out.ordW (i:=i) hlt
       cases e
       obtain ⟨p,hp⟩:∃ p:Nat,rd ord (i:Int)=p:=⟨(rd ord (i:Int)).toNat,by omega⟩
       rw [hp] at y hf
       rw [Int.toNat_natCast] at hf
       have hpl:p < P.length:=by omega
       have hpl':(p:Int) < (P.length:Int):=by omega
       have hp0:(0:Int)≤(p:Int):=by omega
       obtain ⟨eG,lG,rG⟩:=Kd.R_reads' HSr.out.G
       obtain ⟨ag,e,yg⟩:=boolC_at rG (i:=p) (by omega)
       cases e
       rw [HB.out.hgone p hpl] at yg
       have HPL:=zF hpl
       have HFn:=zF hf
       have s3:=(blk_cell KSr.out 3).trans rfl
       have HYo:=zF y
       clear q0_ q1_ hp rG lG eG hf hL hlt
       cases hg:(t.A p).isSome with
       | true =>
        rw [hg] at yg
        have HG:=zF hg
        clear hg
        go_upto_region 11 with (fail)
        go_quiet (fail)
        go_wp2
        go_roundg (ord.length - (i + 1))
        case measure=>have:=HI.out;have:=HLT.out;omega
        case rel=>exact ⟨i + 1,A9,c9,[],by go_num,rfl,⟨by have:=HLT.out;omega,rfl⟩,⟨Kd.R_below HR9.out (pw_below_drewN (Below.refl _ _) _)⟩,⟨pw_below_drewN HBr.out _⟩,⟨.inl ⟨rfl,by have h:=HFn.out;rw [show fcF P ord t.A p=none from by unfold fcF;rw [HG.out];rfl,Option.none_or] at h;exact h⟩⟩⟩
       | false =>
        rw [hg] at yg
        have HG:Aside0 (t.A p=none):=⟨by simpa using hg⟩
        clear hg
        go_upto_region 11 with (fail)
        go_quiet (fail)
        go_upto_region 12 with (fail)
        clear s3 y yg
        refine wp_region_any (by kernel_rfl) ?_
        refine wpAny_of_held (S:=fun W=>Below wr.heap.size wr W) _ _ _ _ ?_
        show wpAnyH _ _ _ _ _ 7 (Array.replicate 7 false) _ (wr.drewN nq).drew
        have HS:Below wr.heap.size wr (wr.drewN nq).drew:=below_drew1 (pw_below_drewN (Below.refl _ _) _)
        generalize (wr.drewN nq).drew=wx at HS ⊢
        refine tK (v:=.agg #[.slice A0 F.length c0,.slice A1 P.length c1,.slice (some ao) ord.length c2,.slice (some ag) P.length cG,.slice AT P.length cT,vK]) 0 HS (fun w9 h9=>?hy) ?_
        case hy=>(have k9:=blk_below KSr.out h9;have y0:=(blk_cell k9 0).trans rfl;have y1:=(blk_cell k9 1).trans rfl;have y2:=(blk_cell k9 2).trans rfl;have y3:=(blk_cell k9 3).trans rfl;have y4:=(blk_cell k9 4).trans rfl;have y5:=(blk_cell k9 5).trans rfl;go_simp)
        try simp only [Act.put,zA,zB,zC]
        refine tK (v:=.slice (some ao) ord.length c2) 1 HS (fun w9 h9=>?hy) ?_
        case hy=>(skip;go_simp)
        try simp only [Act.put,zA,zB,zC]
        refine tK (v:=.int .i64 i) 2 HS (fun w9 h9=>?hy) ?_
        case hy=>(skip;go_simp)
        try simp only [Act.put,zA,zB,zC]
        refine tK (v:=.pointer (some (ao.add i))) 3 HS (fun w9 h9=>?hy) ?_
        case hy=>(skip;go_simp)
        try simp only [Act.put,zA,zB,zC]
        refine tK (v:=.int .i64 p) 4 HS (fun w9 h9=>?hy) ?_
        case hy=>(have y1:=pw_cell_below h9 HYo.out;go_simp)
        try simp only [Act.put,zA,zB,zC]
        refine only_held 5 rfl (by kernel_rfl) (fun K hK=>?_)
        rw [if_pos (by rfl)]
        go_simp
        go_at_call 49
        (with_reducible refine (cycle_calls2 (HSr.out.kept HS) HF.out HB.out HRun.out.I HRun.out.W HPL.out HG.out).mono ?_)
        rintro e w3 ⟨v,rfl,hR,hb⟩
        have HR3:=zF (Kd.R_lower hR (below_step HBr.out HS).size)
        replace HS:=below_then HS (HS.size) hb
        clear hb hR
        refine hK.out _ _ HS ?_
        try simp only [Act.put,zA,zB,zC]
        clear hK K
        refine tK (v:=v) 6 HS (fun w9 h9=>?hy) ?_
        case hy=>(skip;go_simp)
        try simp only [Act.put,zA,zB,zC]
        refine done_held (by kernel_rfl) ?_
        have HB3:=zF (below_step HBr.out HS)
        clear HS
        obtain ⟨A3,c3,rfl,_,_⟩:=Kd.R_reads HR3.out
        go_wp2
        go_roundg (ord.length - (i + 1))
        case measure=>have:=HI.out;have:=HLT.out;omega
        case rel=>exact ⟨i + 1,A3,c3,_,by go_num,rfl,⟨by have:=HLT.out;omega,rfl⟩,HR3,HB3,⟨fc_next HFn.out HG.out⟩⟩
    case rest =>
     obtain ⟨A9,c9,rfl,HR9,HB9⟩:=hcut
     have HS3:=zF (HS2.out.kept HB9.out)
     have KS3:=zF (blk_below KS2.out HB9.out)
     have KM3:=zF (blk_below KM2.out HB9.out)
     have RG3:=zF (Kd.S_below RG2.out HB9.out)
     have HL9:=zF (LRow.of HR9.out)
     have HRg:=zF (ring_calls2 HS3.out HF.out HB.out HRun.out.I HCy.out.mem HC0.out (by have:=HC64.out;omega) A9 c9 (Kd.R_reads' HR9.out).2.2 (Kd.R_reads' HR9.out).2.1)
     have HRl:=zF (ring_len P ord t.A C)
     have HNote:=zF (ring_note HF.out HRun.out.W HRun.out.R HCy.out HIt.out HOb.out HC0.out)
     have HROk:=zF (rings_ok2 HF.out HRun.out.R)
     generalize ringW P ord t.A C=x at HRg HRl HNote
     obtain ⟨xb,xm,xi⟩:=x
     dsimp only at HRg HRl HNote
     have HTlt:Aside0 (∀ k,(Value.slice AT P.length cT).ownBlock=some k→k < w20.heap.size):=⟨fun k hk=>Kd.R_lt HS2.out.T k hk⟩
     have HGlt:Aside0 (∀ k,(Value.slice AG P.length cG).ownBlock=some k→k < w20.heap.size):=⟨fun k hk=>Kd.R_lt HS2.out.G k hk⟩
     have HKlt:Aside0 (∀ k,vK.ownBlock=some k→k < w20.heap.size):=⟨fun k hk=>Kd.R_lt HS2.out.K k hk⟩
     clear HS2 KS2 KM2 RG2 HC1 HIL
     have s0:=(blk_cell KS3.out 0).trans rfl
     have s1:=(blk_cell KS3.out 1).trans rfl
     have s2:=(blk_cell KS3.out 2).trans rfl
     have s3:=(blk_cell KS3.out 3).trans rfl
     have s4:=(blk_cell KS3.out 4).trans rfl
     have s5:=(blk_cell KS3.out 5).trans rfl
     go_upto_region 14 with (go_at_call 50;(with_reducible refine HRg.out.mono ?_);rintro e w21 ⟨vx,rfl,hX,hb⟩;(obtain ⟨AX,cX,rfl,_,_⟩:=Kd.R_reads hX);have HX:=zF hX;have HBa:=zF hb;clear hX hb;clear s0 s1 s2 s3 s4 s5)
     have hb:=below_alloc (Below.refl w21.heap.size w21) (.cells #[.bool xb,.slice AX xm.length cX] 47)
     have K3:=zF (blk_new w21 (.cells #[.bool xb,.slice AX xm.length cX] 47))
     generalize w21.alloc (.cells #[.bool xb,.slice AX xm.length cX] 47)=w22 at hb K3 ⊢
     have HBb:=zF (below_step HBa.out hb)
     have HX2:=zF (Kd.R_below HX.out hb)
     clear hb
     have b0:=(blk_cell K3.out 0).trans rfl
     have b1:=(blk_cell K3.out 1).trans rfl
     go_upto_if 76 with (fail)
     have HS4:=zF (HS3.out.kept HBb.out)
     have KS4:=zF (blk_below KS3.out HBb.out)
     have KM4:=zF (blk_below KM3.out HBb.out)
     have RG4:=zF (Kd.S_old RG3.out HBb.out)
     have HL4:=zF (HL9.out.below HBb.out)
     have HM3:=zF HS3.out.below.size
     clear HRg HX HBa HR9 HL9 HB9
     go_cut [8] (fun v8 wc=>Aside0 (SR w wc A0 c0 F A1 c1 P A2 c2 ord (.slice AG P.length cG) (.slice AT P.length cT) vK gn ts tk)∧Aside0 (wc.heap[gs]? = some (.cells #[.slice A0 F.length c0,.slice A1 P.length c1,.slice A2 ord.length c2,.slice AG P.length cG,.slice AT P.length cT,vK] 81 (0,0)))∧Aside0 (wc.heap[g2]? = some (.cells #[.slice A0 F.length c0,.slice A1 P.length c1] 25 (0,0)))∧Aside0 (LRow w20 wc (.slice A9 (ints C).length c9) (ints C))∧Aside0 (Kd.S k47 47 wc w.heap.size (fun _=>True) v8 ((T.note (datG P ord) t.A C t.l).map (ringOf P (T.exec (datG P ord) t.A C)))))
     case first =>
      cases xi with
      | false =>
       go_wp2
       go_meet
       case rel=>exact ⟨HS4,KS4,KM4,HL4,⟨by have h:=HNote.out;rw [if_neg (by decide)] at h;rw [← h];exact Kd.S_mono RG4.out (fun _ _=>trivial)⟩⟩
      | true =>
       go_wp2_with (go_at_call 51;(with_reducible refine (rput_calls (w0:=w) u8 (.slice AX xm.length cX) _ xb xm RG4.out HX2.out HM3.out HS4.out.below HROk.out.1 HROk.out.2 (by rw [HRl.out];exact HC0.out) (by rw [HRl.out];exact HC64.out)).mono ?_);rintro e w23 ⟨v,rfl,hSn,hb,hk⟩;have HSn:=zF hSn;have HBn:=zF hb;have HKp:=zF hk;clear hSn hb hk b0 b1)
       go_meet
       case rel=>exact ⟨⟨HS4.out.keptP HKp.out HBn.out⟩,⟨blkP KS4.out (by decide) (by decide) HKp.out⟩,⟨blkP KM4.out (by decide) (by decide) HKp.out⟩,⟨rowP HL4.out HKp.out⟩,⟨by have h:=HNote.out;simp only [↓reduceIte] at h;rw [← h];exact HSn.out⟩⟩
     case rest =>
      obtain ⟨HS,KS,KM,HL,RG⟩:=hcut
      clear HS3 KS3 KM3 RG3 HS4 KS4 KM4 RG4 HL4 HM3 HNote HROk HRl HBb HX2 K3 b0 b1
      obtain ⟨rn,hrn⟩:∃ x,x=(T.note (datG P ord) t.A C t.l).map (ringOf P (T.exec (datG P ord) t.A C)):=⟨_,rfl⟩
      rw [← hrn] at RG
      have HRn:=zF hrn
      clear hrn
      have hpp:0 < P.length:=Nat.lt_of_le_of_lt (Nat.zero_le _) (HCy.out.mem _ (List.getElem_mem HC0.out)).1
      obtain ⟨bT,cT2,ef,_,_,cellsT,hbT⟩:=Kd.R_form HS.out.T (by rw [HB.out.tl];exact hpp)
      injection ef with e1 e2_ e3_
      clear e2_ e3_
      subst e1
      obtain ⟨bG,cG2,ef,_,_,cellsG,hbG⟩:=Kd.R_form HS.out.G (by rw [HB.out.gl];exact hpp)
      injection ef with e1 e2_ e3_
      clear e2_ e3_
      subst e1
      have HbT:=zF (HTlt.out bT rfl)
      have HbG:=zF (HGlt.out bG rfl)
      clear hbT hbG HTlt HGlt hpp
      have HNk:Aside0 (∀ k,(Value.slice A9 (ints C).length c9).ownBlock=some k→some k≠vK.ownBlock):=⟨fun k hk e=>by have h1:=Kd.R_base HL.out k hk;have h2:=HKlt.out k e.symm;omega⟩
      clear HKlt
      go_upto_region 17 with (fail)
      have HS0:Aside0 (SR w wc A0 c0 F A1 c1 P A2 c2 ord (.slice (some ⟨bG,0,none⟩) P.length cG) (.slice (some ⟨bT,0,none⟩) P.length cT) vK gn (tosK (datG P ord) t.A ts C 0) tk):=⟨HS.out⟩
      go_loopg [13] C.length (fun gk v13 w'=>∃ i:Nat,v13 = .int .i64 i∧Aside0 (i≤C.length∧gk=C.length - i)∧Aside0 (SR w w' A0 c0 F A1 c1 P A2 c2 ord (.slice (some ⟨bG,0,none⟩) P.length cG) (.slice (some ⟨bT,0,none⟩) P.length cT) vK gn (tosK (datG P ord) t.A ts C i) tk)∧Aside0 (w'.heap[gs]? = some (.cells #[.slice A0 F.length c0,.slice A1 P.length c1,.slice A2 ord.length c2,.slice (some ⟨bG,0,none⟩) P.length cG,.slice (some ⟨bT,0,none⟩) P.length cT,vK] 81 (0,0)))∧Aside0 (w'.heap[g2]? = some (.cells #[.slice A0 F.length c0,.slice A1 P.length c1] 25 (0,0)))∧Aside0 (LRow w20 w' (.slice A9 (ints C).length c9) (ints C))∧Aside0 (Kd.S k47 47 w' w.heap.size (fun _=>True) u8 rn))
      case atStart=>exact ⟨0,rfl,⟨Nat.zero_le _,rfl⟩,HS0,KS,KM,HL,RG⟩
      case round =>
       clear HS0 HS KS KM HL RG
       obtain ⟨i,rfl,HI,HSr,KSr,KMr,HLr,RGr⟩:=hrel
       have hi:=HI.out.1
       have hcl:=ints_len C
       have hc6:=HC64.out
       by_cases hlt:i < C.length
       ·
        have hil:i < (ints C).length:=by omega
        have hlt':(i:Int) < ((ints C).length:Int):=by omega
        have HLT:=zF hlt
        have hCL:=(Kd.R_reads' HLr.out).2.2
        obtain ⟨a9,e,y⟩:=intC_at hCL (i:=i) hil
        cases e
        obtain ⟨p,hpC⟩:∃ p,C[i]=p:=⟨_,rfl⟩
        have hrd:rd (ints C) (i:Int)=(p:Int):=by rw [rd_get hil,← hpC];simp [ints]
        have hgD:C.getD i 0=p:=by rw [List.getD_eq_getElem?_getD,List.getElem?_eq_getElem hlt];exact hpC
        obtain ⟨hpl,hpa⟩:p < P.length∧t.A p=none:=HCy.out.mem p (hpC ▸ List.getElem_mem hlt)
        rw [hrd] at y
        have HYl:=zF y
        have hpl':(p:Int) < (P.length:Int):=by omega
        have hp0:(0:Int)≤(p:Int):=by omega
        have HYf:Aside0 (∀ W,LRow w20 W (.slice (some a9) (ints C).length c9) (ints C)→W.cell? (a9.add i)=some (.int .i64 (p:Int))):=⟨fun W hl=>by obtain ⟨a,e,y⟩:=intC_at (Kd.R_reads' hl).2.2 (i:=i) hil;cases e;rw [← hrd];exact y⟩
        clear hrd hCL hpC hil hcl
        have HSn:Aside0 (tosK (datG P ord) t.A ts C (i + 1)=(tosK (datG P ord) t.A ts C i).set p (T.want (datG P ord) t.A p)):=⟨by show (tosK (datG P ord) t.A ts C i).set (C.getD i 0) (T.want (datG P ord) t.A (C.getD i 0))=_;rw [hgD]⟩
        have HBs:=zF (fun (W:World) (hb:Below wr.heap.size wr W)=>best_calls2 (HSr.out.kept hb) HF.out HRun.out.I HB.out hpl hpa)
        have HPut:=zF (fun (W:World) (hb:Below wr.heap.size wr W)=>putT_all (HSr.out.kept hb) p (T.want (datG P ord) t.A p) (blk_below KSr.out hb) (blk_below KMr.out hb) (HLr.out.below hb) HbT.out (Kd.S_below RGr.out hb))
        have HTc:Aside0 (∃ u,wr.cell? ⟨bT,p,none⟩=some (.int .i64 u)∧wr.frozen? ⟨bT,p,none⟩=false):=⟨by
         have:=Kd.R_celln (0:Int) HSr.out.T (p:Int) hp0 hpl'
         rw [Int.toNat_natCast] at this
         exact ⟨_,this⟩⟩
        generalize T.want (datG P ord) t.A p=zz at HSn HBs HPut
        clear hgD hpa
        go_upto_region 19 with (fail)
        clear y
        refine wp_region_split 12 (fun W=>Below wr.heap.size wr W) (by kernel_rfl) (by kernel_rfl) ?_
        simp only [List.take_succ_cons,List.take_zero,List.drop_succ_cons,List.drop_zero]
        have HS:Below wr.heap.size wr wr.drew:=below_drew (Below.refl _ _)
        generalize wr.drew=wx at HS ⊢
        refine tK (v:=.pointer (some ⟨gs,4,none⟩)) 0 HS (fun w9 h9=>?hy) ?_
        case hy=>(skip;go_simp)
        try simp only [Act.put,zA,zB,zC]
        refine tK (v:=.slice (some ⟨bT,0,none⟩) P.length cT) 1 HS (fun w9 h9=>?hy) ?_
        case hy=>(have k9:=blk_below KSr.out h9;have y0:=(blk_cell k9 0).trans rfl;have y1:=(blk_cell k9 1).trans rfl;have y2:=(blk_cell k9 2).trans rfl;have y3:=(blk_cell k9 3).trans rfl;have y4:=(blk_cell k9 4).trans rfl;have y5:=(blk_cell k9 5).trans rfl;go_simp)
        try simp only [Act.put,zA,zB,zC]
        refine tK (v:=.slice (some a9) (ints C).length c9) 2 HS (fun w9 h9=>?hy) ?_
        case hy=>(skip;go_simp)
        try simp only [Act.put,zA,zB,zC]
        refine tK (v:=.int .i64 i) 3 HS (fun w9 h9=>?hy) ?_
        case hy=>(skip;go_simp)
        try simp only [Act.put,zA,zB,zC]
        refine tK (v:=.pointer (some (a9.add i))) 4 HS (fun w9 h9=>?hy) ?_
        case hy=>(skip;go_simp)
        try simp only [Act.put,zA,zB,zC]
        refine tK (v:=.int .i64 p) 5 HS (fun w9 h9=>?hy) ?_
        case hy=>(have y1:=pw_cell_below h9 HYl.out;go_simp)
        try simp only [Act.put,zA,zB,zC]
        refine tK (v:=.agg #[.slice A0 F.length c0,.slice A1 P.length c1,.slice A2 ord.length c2,.slice (some ⟨bG,0,none⟩) P.length cG,.slice (some ⟨bT,0,none⟩) P.length cT,vK]) 6 HS (fun w9 h9=>?hy) ?_
        case hy=>(have k9:=blk_below KSr.out h9;have y0:=(blk_cell k9 0).trans rfl;have y1:=(blk_cell k9 1).trans rfl;have y2:=(blk_cell k9 2).trans rfl;have y3:=(blk_cell k9 3).trans rfl;have y4:=(blk_cell k9 4).trans rfl;have y5:=(blk_cell k9 5).trans rfl;go_simp)
        try simp only [Act.put,zA,zB,zC]
        refine tK (v:=.slice (some a9) (ints C).length c9) 7 HS (fun w9 h9=>?hy) ?_
        case hy=>(skip;go_simp)
        try simp only [Act.put,zA,zB,zC]
        refine tK (v:=.int .i64 i) 8 HS (fun w9 h9=>?hy) ?_
        case hy=>(skip;go_simp)
        try simp only [Act.put,zA,zB,zC]
        refine tK (v:=.pointer (some (a9.add i))) 9 HS (fun w9 h9=>?hy) ?_
        case hy=>(skip;go_simp)
        try simp only [Act.put,zA,zB,zC]
        refine tK (v:=.int .i64 p) 10 HS (fun w9 h9=>?hy) ?_
        case hy=>(have y1:=pw_cell_below h9 HYl.out;go_simp)
        try simp only [Act.put,zA,zB,zC]
        refine only_held 11 rfl (by kernel_rfl) (fun K hK=>?_)
        rw [if_pos (by rfl)]
        go_simp
        go_at_call 52
        (with_reducible refine (HBs.out _ HS).mono ?_)
        rintro e w3 ⟨rfl,hb⟩
        replace HS:=below_then HS (HS.size) hb
        clear hb
        refine hK.out _ _ HS ?_
        try simp only [Act.put,zA,zB,zC]
        clear hK K
        refine done_held (by kernel_rfl) ?_
        show wpList _ _ _ _ _ _
        obtain ⟨u,hu1,hu2⟩:=HTc.out
        have z1:=pw_cell_below HS hu1
        have z2:w3.frozen? ⟨bT,p,none⟩=false:=(HS.frozen (p:=⟨bT,p,none⟩) (World.block_lt_of_cell? _ _ hu1)).trans hu2
        have HAll:=zF (HPut.out _ HS)
        have HU:=HI.out
        have HU2:=HLT.out
        clear hu1 hu2 HS HLr HSr KSr KMr RGr HPut HBs
        go_wp2
        go_roundg (C.length - (i + 1))
        case measure=>omega
        case rel=>exact ⟨i + 1,by go_num,⟨by omega,rfl⟩,⟨by rw [HSn.out];exact HAll.out.1⟩,⟨HAll.out.2.1⟩,⟨HAll.out.2.2.1⟩,⟨HAll.out.2.2.2.1⟩,⟨HAll.out.2.2.2.2⟩⟩
       ·
        obtain rfl:i=C.length:=by omega
        have hlt':¬ ((C.length:Nat):Int) < ((ints C).length:Int):=by omega
        clear hcl
        go_upto_region 21 with (fail)
        have HS0:Aside0 (SR w wr A0 c0 F A1 c1 P A2 c2 ord (.slice (some ⟨bG,0,none⟩) P.length cG) (.slice (some ⟨bT,0,none⟩) P.length cT) vK (goK (ints C) gn 0) (tosK (datG P ord) t.A ts C C.length) (tk ++ (C.map (T.want (datG P ord) t.A)).take 0)):=⟨by rw [List.take_zero,List.append_nil];exact HSr.out⟩
        clear HSr HI
        go_loopg [14] C.length (fun gk v14 w'=>∃ (i:Nat) (vq:Value),v14 = .int .i64 i∧Aside0 (i≤C.length∧gk=C.length - i)∧Aside0 (SR w w' A0 c0 F A1 c1 P A2 c2 ord (.slice (some ⟨bG,0,none⟩) P.length cG) (.slice (some ⟨bT,0,none⟩) P.length cT) vq (goK (ints C) gn i) (tosK (datG P ord) t.A ts C C.length) (tk ++ (C.map (T.want (datG P ord) t.A)).take i))∧Aside0 (w'.heap[gs]? = some (.cells #[.slice A0 F.length c0,.slice A1 P.length c1,.slice A2 ord.length c2,.slice (some ⟨bG,0,none⟩) P.length cG,.slice (some ⟨bT,0,none⟩) P.length cT,vq] 81 (0,0)))∧Aside0 (w'.heap[g2]? = some (.cells #[.slice A0 F.length c0,.slice A1 P.length c1] 25 (0,0)))∧Aside0 (LRow w20 w' (.slice A9 (ints C).length c9) (ints C))∧Aside0 (Kd.S k47 47 w' w.heap.size (fun _=>True) u8 rn)∧Aside0 (∀ k,(Value.slice A9 (ints C).length c9).ownBlock=some k→some k≠vq.ownBlock))
        case atStart=>exact ⟨0,vK,rfl,⟨Nat.zero_le _,rfl⟩,HS0,KSr,KMr,HLr,RGr,HNk⟩
        case round =>
         clear HS0 KSr KMr HLr RGr HNk
         obtain ⟨i,vq,rfl,HI,HSr,KSr,KMr,HLr,RGr,HNr⟩:=hrel
         have hi:=HI.out.1
         have hcl:=ints_len C
         have hc6:=HC64.out
         by_cases hlt:i < C.length
         ·
          have hil:i < (ints C).length:=by omega
          have hlt':(i:Int) < ((ints C).length:Int):=by omega
          have HLT:=zF hlt
          have hCL:=(Kd.R_reads' HLr.out).2.2
          obtain ⟨a9,e,y⟩:=intC_at hCL (i:=i) hil
          cases e
          obtain ⟨p,hpC⟩:∃ p,C[i]=p:=⟨_,rfl⟩
          have hrd:rd (ints C) (i:Int)=(p:Int):=by rw [rd_get hil,← hpC];simp [ints]
          have hgD:C.getD i 0=p:=by rw [List.getD_eq_getElem?_getD,List.getElem?_eq_getElem hlt];exact hpC
          obtain ⟨hpl,hpa⟩:p < P.length∧t.A p=none:=HCy.out.mem p (hpC ▸ List.getElem_mem hlt)
          rw [hrd] at y
          have HYl:=zF y
          have hpl':(p:Int) < (P.length:Int):=by omega
          have hp0:(0:Int)≤(p:Int):=by omega
          have HYf:Aside0 (∀ W,LRow w20 W (.slice (some a9) (ints C).length c9) (ints C)→W.cell? (a9.add i)=some (.int .i64 (p:Int))):=⟨fun W hl=>by obtain ⟨a,e,y⟩:=intC_at (Kd.R_reads' hl).2.2 (i:=i) hil;cases e;rw [← hrd];exact y⟩
          have HGn:Aside0 (goK (ints C) gn (i + 1)=(goK (ints C) gn i).set p true):=⟨by show (goK (ints C) gn i).set (rd (ints C) (i:Int)).toNat true=_;rw [hrd,Int.toNat_natCast]⟩
          have HKn:Aside0 ((C.map (T.want (datG P ord) t.A)).take (i + 1)=(C.map (T.want (datG P ord) t.A)).take i ++ [T.want (datG P ord) t.A p]):=⟨by rw [List.take_succ_eq_append_getElem (by simpa using hlt),List.getElem_map,hpC]⟩
          have HXt:Aside0 (rd (tosK (datG P ord) t.A ts C C.length) (p:Int)=T.want (datG P ord) t.A p):=⟨by rw [tosK_get _ _ _ _ (by rw [HB.out.tl];exact hpl) C.length (Nat.le_refl _),List.take_length,if_pos (hpC ▸ List.getElem_mem hlt)]⟩
          have HLen:Aside0 (((tk ++ (C.map (T.want (datG P ord) t.A)).take i).length + 1) * 8≤140737488355328):=⟨by have h1:=HRun.out.tk;rw [List.length_append,List.length_take,List.length_map];omega⟩
          clear hrd hCL hpC hil hcl
          have HGc:Aside0 (∃ u,wr.cell? ⟨bG,p,none⟩=some (.bool u)∧wr.frozen? ⟨bG,p,none⟩=false):=⟨by
           have:=Kd.R_celln false HSr.out.G (p:Int) hp0 hpl'
           rw [Int.toNat_natCast] at this
           exact ⟨_,this⟩⟩
          have HTf:Aside0 (∀ (W:World) (vk:Value) (g:List Bool) (tq:List Int),SR w W A0 c0 F A1 c1 P A2 c2 ord (.slice (some ⟨bG,0,none⟩) P.length cG) (.slice (some ⟨bT,0,none⟩) P.length cT) vk g (tosK (datG P ord) t.A ts C C.length) tq→W.cell? ⟨bT,p,none⟩=some (.int .i64 (T.want (datG P ord) t.A p))):=⟨fun W vk g tq h=>by
           have:=(Kd.R_celln (0:Int) h.T (p:Int) hp0 hpl').1
           rw [Int.toNat_natCast] at this
           rw [← HXt.out]
           exact this⟩
          have HPut:=zF (fun (W:World) (hb:Below wr.heap.size wr W)=>putG_all (HSr.out.kept hb) p true (blk_below KSr.out hb) (blk_below KMr.out hb) (HLr.out.below hb) HbG.out (Kd.S_below RGr.out hb))
          generalize hx:T.want (datG P ord) t.A p=x at HKn HTf
          clear hgD hpa hx HXt
          go_upto_region 23 with (fail)
          clear y
          refine wp_region_split 6 (fun W=>Below wr.heap.size wr W) (by kernel_rfl) (by kernel_rfl) ?_
          simp only [List.take_succ_cons,List.take_zero,List.drop_succ_cons,List.drop_zero]
          have HS:Below wr.heap.size wr wr.drew:=below_drew (Below.refl _ _)
          generalize wr.drew=wx at HS ⊢
          refine tK (v:=.pointer (some ⟨gs,3,none⟩)) 0 HS (fun w9 h9=>?hy) ?_
          case hy=>(skip;go_simp)
          try simp only [Act.put,zA,zB,zC]
          refine tK (v:=.slice (some ⟨bG,0,none⟩) P.length cG) 1 HS (fun w9 h9=>?hy) ?_
          case hy=>(have k9:=blk_below KSr.out h9;have y0:=(blk_cell k9 0).trans rfl;have y1:=(blk_cell k9 1).trans rfl;have y2:=(blk_cell k9 2).trans rfl;have y3:=(blk_cell k9 3).trans rfl;have y4:=(blk_cell k9 4).trans rfl;have y5:=(blk_cell k9 5).trans rfl;go_simp)
          try simp only [Act.put,zA,zB,zC]
          refine tK (v:=.slice (some a9) (ints C).length c9) 2 HS (fun w9 h9=>?hy) ?_
          case hy=>(skip;go_simp)
          try simp only [Act.put,zA,zB,zC]
          refine tK (v:=.int .i64 i) 3 HS (fun w9 h9=>?hy) ?_
          case hy=>(skip;go_simp)
          try simp only [Act.put,zA,zB,zC]
          refine tK (v:=.pointer (some (a9.add i))) 4 HS (fun w9 h9=>?hy) ?_
          case hy=>(skip;go_simp)
          try simp only [Act.put,zA,zB,zC]
          refine tK (v:=.int .i64 p) 5 HS (fun w9 h9=>?hy) ?_
          case hy=>(have y1:=pw_cell_below h9 HYl.out;go_simp)
          try simp only [Act.put,zA,zB,zC]
          refine done_held (by kernel_rfl) ?_
          show wpList _ _ _ _ _ _
          obtain ⟨u,hu1,hu2⟩:=HGc.out
          have z1:=pw_cell_below HS hu1
          have z2:wx.frozen? ⟨bG,p,none⟩=false:=(HS.frozen (p:=⟨bG,p,none⟩) (World.block_lt_of_cell? _ _ hu1)).trans hu2
          have HAll:=zF (HPut.out _ HS)
          clear hu1 hu2 HS HLr HSr KSr KMr RGr HPut
          go_upto_region 24 with (fail)
          clear z1 z2
          generalize wx.setCell ⟨bG,p,none⟩ (.bool true)=wy at HAll ⊢
          obtain ⟨hS6,hK6,hM6,hL6,hR6⟩:=HAll.out
          have HS6:=zF hS6
          have KS6:=zF hK6
          have KM6:=zF hM6
          have HL6:=zF hL6
          have RG6:=zF hR6
          clear hS6 hK6 hM6 hL6 hR6 HAll
          refine wp_region_split 12 (fun W=>W.heap[gs]? = some (.cells #[.slice A0 F.length c0,.slice A1 P.length c1,.slice A2 ord.length c2,.slice (some ⟨bG,0,none⟩) P.length cG,.slice (some ⟨bT,0,none⟩) P.length cT,vq] 81 (0,0))∧W.cell? (a9.add i)=some (.int .i64 p)∧W.cell? ⟨bT,p,none⟩=some (.int .i64 x)) (by kernel_rfl) (by kernel_rfl) ?_
          simp only [List.take_succ_cons,List.take_zero,List.drop_succ_cons,List.drop_zero]
          have HBx:Aside0 (Below wy.heap.size wy wy.drew):=⟨below_drew (Below.refl _ _)⟩
          have HS:(fun W=>W.heap[gs]? = some (.cells #[.slice A0 F.length c0,.slice A1 P.length c1,.slice A2 ord.length c2,.slice (some ⟨bG,0,none⟩) P.length cG,.slice (some ⟨bT,0,none⟩) P.length cT,vq] 81 (0,0))∧W.cell? (a9.add i)=some (.int .i64 p)∧W.cell? ⟨bT,p,none⟩=some (.int .i64 x)) wy.drew:=⟨blk_below KS6.out HBx.out,pw_cell_below HBx.out (HYf.out _ HL6.out),pw_cell_below HBx.out (HTf.out _ _ _ _ HS6.out)⟩
          generalize wy.drew=wz at HS HBx ⊢
          refine tK (v:=.pointer (some ⟨gs,5,none⟩)) 0 HS (fun w9 h9=>?hy) ?_
          case hy=>(skip;go_simp)
          try simp only [Act.put,zA,zB,zC]
          refine tK (v:=vq) 1 HS (fun w9 h9=>?hy) ?_
          case hy=>(obtain ⟨k9,y8,y9⟩:=h9;have y0:=(blk_cell k9 0).trans rfl;have y1:=(blk_cell k9 1).trans rfl;have y2:=(blk_cell k9 2).trans rfl;have y3:=(blk_cell k9 3).trans rfl;have y4:=(blk_cell k9 4).trans rfl;have y5:=(blk_cell k9 5).trans rfl;go_simp)
          try simp only [Act.put,zA,zB,zC]
          refine tK (v:=.pointer (some ⟨gs,4,none⟩)) 2 HS (fun w9 h9=>?hy) ?_
          case hy=>(skip;go_simp)
          try simp only [Act.put,zA,zB,zC]
          refine tK (v:=.slice (some ⟨bT,0,none⟩) P.length cT) 3 HS (fun w9 h9=>?hy) ?_
          case hy=>(obtain ⟨k9,y8,y9⟩:=h9;have y0:=(blk_cell k9 0).trans rfl;have y1:=(blk_cell k9 1).trans rfl;have y2:=(blk_cell k9 2).trans rfl;have y3:=(blk_cell k9 3).trans rfl;have y4:=(blk_cell k9 4).trans rfl;have y5:=(blk_cell k9 5).trans rfl;go_simp)
          try simp only [Act.put,zA,zB,zC]
          refine tK (v:=.slice (some a9) (ints C).length c9) 4 HS (fun w9 h9=>?hy) ?_
          case hy=>(skip;go_simp)
          try simp only [Act.put,zA,zB,zC]
          refine tK (v:=.int .i64 i) 5 HS (fun w9 h9=>?hy) ?_
          case hy=>(skip;go_simp)
          try simp only [Act.put,zA,zB,zC]
          refine tK (v:=.pointer (some (a9.add i))) 6 HS (fun w9 h9=>?hy) ?_
          case hy=>(skip;go_simp)
          try simp only [Act.put,zA,zB,zC]
          refine tK (v:=.int .i64 p) 7 HS (fun w9 h9=>?hy) ?_
          case hy=>(obtain ⟨k9,y8,y9⟩:=h9;have y0:=(blk_cell k9 0).trans rfl;have y1:=(blk_cell k9 1).trans rfl;have y2:=(blk_cell k9 2).trans rfl;have y3:=(blk_cell k9 3).trans rfl;have y4:=(blk_cell k9 4).trans rfl;have y5:=(blk_cell k9 5).trans rfl;go_simp)
          try simp only [Act.put,zA,zB,zC]
          refine tK (v:=.pointer (some ⟨bT,p,none⟩)) 8 HS (fun w9 h9=>?hy) ?_
          case hy=>(skip;go_simp)
          try simp only [Act.put,zA,zB,zC]
          refine tK (v:=.int .i64 x) 9 HS (fun w9 h9=>?hy) ?_
          case hy=>(obtain ⟨k9,y8,y9⟩:=h9;have y0:=(blk_cell k9 0).trans rfl;have y1:=(blk_cell k9 1).trans rfl;have y2:=(blk_cell k9 2).trans rfl;have y3:=(blk_cell k9 3).trans rfl;have y4:=(blk_cell k9 4).trans rfl;have y5:=(blk_cell k9 5).trans rfl;go_simp)
          try simp only [Act.put,zA,zB,zC]
          refine only_held 10 rfl (by kernel_rfl) (fun K hK=>?_)
          rw [if_pos (by rfl)]
          go_simp
          have hb:=below_alloc (Below.refl wz.heap.size wz) (.cells #[.int .i64 x] 3)
          have HSn:(fun W=>W.heap[gs]? = some (.cells #[.slice A0 F.length c0,.slice A1 P.length c1,.slice A2 ord.length c2,.slice (some ⟨bG,0,none⟩) P.length cG,.slice (some ⟨bT,0,none⟩) P.length cT,vq] 81 (0,0))∧W.cell? (a9.add i)=some (.int .i64 p)∧W.cell? ⟨bT,p,none⟩=some (.int .i64 x)) (wz.alloc (.cells #[.int .i64 x] 3)):=⟨blk_below HS.1 hb,pw_cell_below hb HS.2.1,pw_cell_below hb HS.2.2⟩
          refine hK.out _ _ HSn ?_
          try simp only [Act.put,zA,zB,zC]
          clear hK K hb HS HSn
          refine only_held 11 rfl (by kernel_rfl) (fun K hK=>?_)
          have HS7:=zF (HS6.out.kept HBx.out)
          have hbs:=HS7.out.below.size
          refine Kd.R_append_step (Kd.int .i64) (w0:=w) w.heap.size (by rfl) (.tmp 113) (.tmp 122) 26 3 (.int .i64 0) 8 (by rfl) Try.underlying26 info3 rfl (by decide) (by omega) vq (tk ++ (C.map (T.want (datG P ord) t.A)).take i) x [.int .i64 x] (fun _=>True) (fun _=>False) (by rfl) (by rfl) (by rfl) (fun _ hk=>hk.elim) (fun _ _=>trivial) HS7.out.K HS7.out.below hbs HLen.out ?_
          intro v4 w4 ho hb hg hat
          obtain ⟨A4,c4,ev⟩:=Kd.R_slice ho
          generalize ((tk ++ (C.map (T.want (datG P ord) t.A)).take i) ++ [x]).length=n4 at ev
          subst ev
          have HAp:=zF (app_all HS7.out hg hb ho hat (blk_below KS6.out HBx.out) (blk_below KM6.out HBx.out) (HL6.out.below HBx.out) HNr.out (Kd.S_below RG6.out HBx.out))
          have HS8:(fun W=>W.heap[gs]? = some (.cells #[.slice A0 F.length c0,.slice A1 P.length c1,.slice A2 ord.length c2,.slice (some ⟨bG,0,none⟩) P.length cG,.slice (some ⟨bT,0,none⟩) P.length cT,vq] 81 (0,0))∧W.cell? (a9.add i)=some (.int .i64 p)∧W.cell? ⟨bT,p,none⟩=some (.int .i64 x)) w4:=⟨HAp.out.2.1,HYf.out _ HAp.out.2.2.2.1,HTf.out _ _ _ _ HAp.out.1⟩
          clear ho hb hg hat
          refine hK.out _ _ HS8 ?_
          try simp only [Act.put,zA,zB,zC]
          clear hK K HS8
          refine done_held (by kernel_rfl) ?_
          show wpList _ _ _ _ _ _
          have z1:=(blk_cell HAp.out.2.1 5).trans rfl
          have z2:=blk_frozen HAp.out.2.1 5
          clear HS6 KS6 KM6 HL6 RG6 HS7 hbs HBx
          go_wp2
          go_roundg (C.length - (i + 1))
          case measure=>have:=HI.out;have:=HLT.out;omega
          case rel=>exact ⟨i + 1,_,by go_num,⟨by have:=HLT.out;omega,rfl⟩,⟨by rw [HGn.out,HKn.out,← List.append_assoc];exact (set5_all HAp.out.1 HAp.out.2.1 HAp.out.2.2.1 HAp.out.2.2.2.1 HAp.out.2.2.2.2.2 HLs.out HNe.out).1⟩,⟨(set5_all HAp.out.1 HAp.out.2.1 HAp.out.2.2.1 HAp.out.2.2.2.1 HAp.out.2.2.2.2.2 HLs.out HNe.out).2.1⟩,⟨(set5_all HAp.out.1 HAp.out.2.1 HAp.out.2.2.1 HAp.out.2.2.2.1 HAp.out.2.2.2.2.2 HLs.out HNe.out).2.2.1⟩,⟨(set5_all HAp.out.1 HAp.out.2.1 HAp.out.2.2.1 HAp.out.2.2.2.1 HAp.out.2.2.2.2.2 HLs.out HNe.out).2.2.2.1⟩,⟨(set5_all HAp.out.1 HAp.out.2.1 HAp.out.2.2.1 HAp.out.2.2.2.1 HAp.out.2.2.2.2.2 HLs.out HNe.out).2.2.2.2⟩,⟨HAp.out.2.2.2.2.1⟩⟩
         ·
          obtain rfl:i=C.length:=by omega
          have hlt':¬ ((C.length:Nat):Int) < ((ints C).length:Int):=by omega
          clear hcl
          obtain ⟨tkN,htk⟩:∃ x,x=tk ++ C.map (T.want (datG P ord) t.A):=⟨_,rfl⟩
          have hte:(tk ++ (C.map (T.want (datG P ord) t.A)).take C.length)=tkN:=by rw [htk,List.take_of_length_le (by simp)]
          rw [hte] at HSr
          have HTk:=zF htk
          have HSe:=HSr
          have HBn:Aside0 (RB P ord (goK (ints C) gn C.length) (tosK (datG P ord) t.A ts C C.length) tkN (T.exec (datG P ord) t.A C)):=⟨by rw [htk];exact RB.exec HB.out HCy.out.mem (by have h1:=HRun.out.tk;omega)⟩
          clear hte htk HSr
          obtain ⟨AK,cK,evq,e1_,e2_⟩:=Kd.R_reads HSe.out.K
          clear e1_ e2_
          subst evq
          have HLv:=zF (rleave_calls HSe.out HF.out (T.inv_exec hwf HRun.out.I HCy.out) HBn.out)
          have s0:=(blk_cell KSr.out 0).trans rfl
          have s1:=(blk_cell KSr.out 1).trans rfl
          have s2:=(blk_cell KSr.out 2).trans rfl
          have s3:=(blk_cell KSr.out 3).trans rfl
          have s4:=(blk_cell KSr.out 4).trans rfl
          have s5:=(blk_cell KSr.out 5).trans rfl
          go_wp2_with (go_at_call 47;(with_reducible refine HLv.out.mono ?_);rintro e w31a ⟨rfl,gn9,hS,hB,hg⟩;have HSa:=zF hS;have HB9:=zF hB;have KSa:=zF (blk_grown KSr.out hg (Kd.R_ne HSe.out.G KSr.out (by decide)));have KMa:=zF (blk_grown KMr.out hg (Kd.R_ne HSe.out.G KMr.out (by decide)));have RGa:=zF (S_ty RGr.out (ty_grown hg (Kd.R_typed HSe.out.G) (by decide) (by decide)));clear hS hB hg;clear s0 s1 s2 s3 s4 s5;have s0:=(blk_cell KSa.out 0).trans rfl;have s1:=(blk_cell KSa.out 1).trans rfl;have s2:=(blk_cell KSa.out 2).trans rfl;have s3:=(blk_cell KSa.out 3).trans rfl;have s4:=(blk_cell KSa.out 4).trans rfl;have s5:=(blk_cell KSa.out 5).trans rfl;have f0:=blk_frozen KSa.out 0;have f1:=blk_frozen KSa.out 1;have f2:=blk_frozen KSa.out 2;have f3:=blk_frozen KSa.out 3;have f4:=blk_frozen KSa.out 4;have f5:=blk_frozen KSa.out 5)
          generalize hw:((((((w31a.setCell ⟨gs,0,none⟩ (.slice A0 F.length c0)).setCell ⟨gs,1,none⟩ (.slice A1 P.length c1)).setCell ⟨gs,2,none⟩ (.slice A2 ord.length c2)).setCell ⟨gs,3,none⟩ (.slice (some ⟨bG,0,none⟩) P.length cG)).setCell ⟨gs,4,none⟩ (.slice (some ⟨bT,0,none⟩) P.length cT)).setCell ⟨gs,5,none⟩ (.slice AK tkN.length cK))=w31
          obtain ⟨h1,h2,h3⟩:=st4 HSa.out KSa.out HLs.out hw.symm
          clear hw
          have HS9:=zF h1
          have KS9:=zF h2
          have KM9:=zF ((h3 g2 HNe.out).trans KMa.out)
          have RG9:=zF (S_ty RGa.out (ty_far KSa.out (by decide) (by decide) h3))
          clear h1 h2 h3 s0 s1 s2 s3 s4 s5 f0 f1 f2 f3 f4 f5
          have HNx:=zF (run_next HF.out HRun.out HP0.out HCc.out HCy.out HNd.out HOb.out HIt.out HC64.out)
          go_roundg (T.left (datG P ord) (T.leaveA (datG P ord) (T.exec (datG P ord) t.A C)))
          case measure=>rw [HGk.out];exact HNx.out.2.1
          case rel=>exact ⟨⟨T.leaveA (datG P ord) (T.exec (datG P ord) t.A C),T.note (datG P ord) t.A C t.l⟩,gn9,_,tkN,_,⟨rfl⟩,⟨by rw [HTk.out];exact HNx.out.1⟩,HB9,HS9,KS9,KM9,⟨by rw [map_leave HNx.out.2.2,← HRn.out];exact RG9.out⟩⟩
end Go.Proofs.Ytjgnkhfgmpaljaa.P
