/- Lemmas, readings of functions as plain Lean functions and contracts of functions of the program, for the claimed theorem; each one's conditions stand in its statement. -/
import Derived.Test.YtjgnkhfgmpaljaaQTD20
import Derived.Deep.CutBlock
import Derived.Deep.DeepCutAuto
namespace Go.Proofs.Ytjgnkhfgmpaljaa.P
open Go.RowKit Go.Proofs.YtjgnkhfgmpaljaaW.PrintWords Go.Proofs.YtjgnkhfgmpaljaaW.PrintLast Go.Proofs.YtjgnkhfgmpaljaaW.PrintMore Go.Proofs.Ytjgnkhfgmpaljaa.M
set_option linter.unusedVariables false
set_option linter.unusedSimpArgs false
theorem k41C_below {w w':World} {A:Option Addr} {n:Nat} {l:List S41} (h:Kd.C k41 w A n l) (hb:Below w.heap.size w w'):Kd.C k41 w' A n l:=by
 refine ⟨h.1,h.2.1,fun hn=>?_⟩
 obtain ⟨ad,e,hc⟩:=h.2.2 hn
 refine ⟨ad,e,fun j p hj=>?_⟩
 obtain ⟨c,h1,h2,h3⟩:=hc j p hj
 exact ⟨c,h1,k41.K_below hb h2,fun i u hi=>pw_cell_below hb (h3 i u hi)⟩
def SolvePost (w:World) (mv:List S39) (rg:List S47) (er:Int) (e:Ending) (w':World):Prop :=
 ∃ v0 v1:Value,e = .returned (.tuple #[v0,v1,.int .i64 er])∧Kd.R k39 39 w' w.heap.size (fun _=>True) v0 mv∧Kd.S k47 47 w' w.heap.size (fun k=>some k≠v0.ownBlock) v1 rg∧Below w.heap.size w w'
def okB (F:List S53) (P:List S41) (ord:List Int):Bool:=validG F P && orderB ord (P.length:Int)
set_option maxHeartbeats 64000000 in
set_option maxRecDepth 100000 in
theorem solve_no (A0 A1 A2:Option Addr) (c0 c1 c2:Nat) (F:List S53) (P:List S41) (ord:List Int) (w:World) (hr0:Kd.C k53 w A0 F.length F) (hr1:Kd.C k41 w A1 P.length P) (hr2:(Kd.int .i64).C w A2 ord.length ord)
  (hok0:∀ x ∈ F,okI x.f0∧okI x.f1) (hok1:∀ p ∈ P,okI p.f1∧∀ f ∈ p.f2,okI f) (hl:ord.length≤1000) (hb:okB F P ord=false) :
  Calls Try.prog 18 #[.agg #[.slice A0 F.length c0,.slice A1 P.length c1],.slice A2 ord.length c2] w (SolvePost w [] [] 1):=by
 have HR0:=zF hr0
 have HR1:=zF hr1
 have HR2:=zF hr2
 have hml:=hr1.2.1
 have HOK0:=zF hok0
 have HOK1:=zF hok1
 have hmm:=@run_makeMap Try.prog
 have hu25:=Try.underlying25
 have hu41:=Try.underlying41
 clear hr0 hr1 hr2 hok0 hok1
 go_enter Try.func18,Try.ntmps18
 go_upto_region 1 with ((with_reducible refine gate_dst (N:=2) rfl ?_);(try (refine gate_guard (by rfl) ?_;dsimp only));refine box_event ?hg (N:=2) ?hd (cs:=#[.slice A0 F.length c0,.slice A1 P.length c1]) (t:=25) ?hr ?_;(case hd=>rfl);(case hg=>rfl);(case hr=>first|(go_simp;done)|(go_simp;rfl));intro gb hgb w1 hbox hb;have HX:=zF hbox;have HB1:=zF hb;have HGB:=zF (show w.heap.size≤gb by rw [hgb];exact Nat.le_refl _);clear hbox hb hgb)
 have x0:w1.cell? ⟨gb,0,none⟩=some (.slice A0 F.length c0):=(blk_cell HX.out 0).trans rfl
 have x1:w1.cell? ⟨gb,1,none⟩=some (.slice A1 P.length c1):=(blk_cell HX.out 1).trans rfl
 have HVa:=zF (valid_calls A0 A1 c0 c1 F P w1 (Kd.C_below HR0.out HB1.out) (k41C_below HR1.out HB1.out) HOK0.out HOK1.out)
 have HOr:=zF (fun (W:World) (hb:Below w.heap.size w W)=>isOrder_calls W A2 c2 ord (P.length:Int) hl (Kd.C_below HR2.out hb))
 cases hv:validG F P with
 | false =>
  rw [hv] at HVa
  clear hv hb HOr
  go_wp2_with (go_at_call 42;(with_reducible refine HVa.out.mono ?_);rintro e w2 ⟨rfl,hb⟩;have HB2:=zF (below_step HB1.out hb);clear hb)
  refine bodyPost_ret (v:=.tuple #[.slice none 0 0,.slice none 0 0,.int .i64 1]) (by simp [results,Try.f18,go_sem]) rfl ?_
  exact ⟨.slice none 0 0,.slice none 0 0,rfl,Kd.R_nil _ _ _ _ _,Kd.S_nil _ _ _ _ _,HB2.out⟩
 | true =>
  rw [hv] at HVa
  cases ho:orderB ord (P.length:Int) with
  | true=>unfold okB at hb;rw [hv,ho] at hb;cases hb
  | false =>
   rw [ho] at HOr
   clear hv ho hb
   go_wp2_with (first
    | (go_at_call 42;(with_reducible refine HVa.out.mono ?_);rintro e w2 ⟨rfl,hb⟩;have HB2:=zF (below_step HB1.out hb);clear hb)
    | (go_at_call 43;(with_reducible refine (HOr.out _ HB2.out).mono ?_);rintro e w3 ⟨rfl,hb⟩;replace HB2:=zF (below_step HB2.out hb);clear hb))
   refine bodyPost_ret (v:=.tuple #[.slice none 0 0,.slice none 0 0,.int .i64 1]) (by simp [results,Try.f18,go_sem]) rfl ?_
   exact ⟨.slice none 0 0,.slice none 0 0,rfl,Kd.R_nil _ _ _ _ _,Kd.S_nil _ _ _ _ _,HB2.out⟩
set_option maxHeartbeats 64000000 in
set_option maxRecDepth 100000 in
theorem solve_yes (A0 A1 A2:Option Addr) (c0 c1 c2:Nat) (F:List S53) (P:List S41) (ord:List Int) (w:World) (hr0:Kd.C k53 w A0 F.length F) (hr1:Kd.C k41 w A1 P.length P) (hr2:(Kd.int .i64).C w A2 ord.length ord)
  (hok0:∀ x ∈ F,okI x.f0∧okI x.f1) (hok1:∀ p ∈ P,okI p.f1∧∀ f ∈ p.f2,okI f) (hl:ord.length≤1000) (hn:P.length≤64) (hc1:P.length≤c1) (hc2:ord.length≤c2) (hb:okB F P ord=true) (hg:GOk (startG P ord P.length)) (hrun:RunOk (P.length + 1) (leaveS (startG P ord P.length))) (hfin:GOk (finalG P ord)) :
  Calls Try.prog 18 #[.agg #[.slice A0 F.length c0,.slice A1 P.length c1],.slice A2 ord.length c2] w (SolvePost w (outM P (finalG P ord).tos P.length) (finalG P ord).rg 0):=by
 have HR0:=zF hr0
 have HR1:=zF hr1
 have HR2:=zF hr2
 have hml:=hr1.2.1
 have HOK0:=zF hok0
 have HOK1:=zF hok1
 have hmm:=@run_makeMap Try.prog
 have hu25:=Try.underlying25
 have hu41:=Try.underlying41
 clear hr0 hr1 hr2 hok0 hok1
 go_enter Try.func18,Try.ntmps18
 go_upto_region 1 with ((with_reducible refine gate_dst (N:=2) rfl ?_);(try (refine gate_guard (by rfl) ?_;dsimp only));refine box_event ?hg (N:=2) ?hd (cs:=#[.slice A0 F.length c0,.slice A1 P.length c1]) (t:=25) ?hr ?_;(case hd=>rfl);(case hg=>rfl);(case hr=>first|(go_simp;done)|(go_simp;rfl));intro gb hgb w1 hbox hb;have HX:=zF hbox;have HB1:=zF hb;have HGB:=zF (show w.heap.size≤gb by rw [hgb];exact Nat.le_refl _);clear hbox hb hgb)
 have x0:w1.cell? ⟨gb,0,none⟩=some (.slice A0 F.length c0):=(blk_cell HX.out 0).trans rfl
 have x1:w1.cell? ⟨gb,1,none⟩=some (.slice A1 P.length c1):=(blk_cell HX.out 1).trans rfl
 have HVa:=zF (valid_calls A0 A1 c0 c1 F P w1 (Kd.C_below HR0.out HB1.out) (k41C_below HR1.out HB1.out) HOK0.out HOK1.out)
 have HOr:=zF (fun (W:World) (hb:Below w.heap.size w W)=>isOrder_calls W A2 c2 ord (P.length:Int) hl (Kd.C_below HR2.out hb))
 obtain ⟨hv,ho⟩:validG F P=true∧orderB ord (P.length:Int)=true:=by unfold okB at hb;rwa [Bool.and_eq_true] at hb
 rw [hv] at HVa
 rw [ho] at HOr
 clear hv ho hb
 have HG0:=zF hg
 have HRun:=zF hrun
 have HFin:=zF hfin
 have hPc:=hc1
 have hOc:=hc2
 clear hg hrun hfin hc1 hc2
 go_upto_region 4 with (first
  | (go_at_call 42;(with_reducible refine HVa.out.mono ?_);rintro e w2 ⟨rfl,hb⟩;have HB2:=zF (below_step HB1.out hb);have HX2:=zF (blk_below HX.out hb);clear hb)
  | (go_at_call 43;(with_reducible refine (HOr.out _ HB2.out).mono ?_);rintro e w3 ⟨rfl,hb⟩;have HB3:=zF (below_step HB2.out hb);have HX3:=zF (blk_below HX2.out hb);clear hb))
 have HR1w:=zF (k41C_below HR1.out HB3.out)
 have HR2w:=zF (Kd.C_below HR2.out HB3.out)
 clear x0 x1 HVa HOr HX HB1 HX2 HB2
 go_cut [8] (fun v8 wc=>∃ a:GA,v8 = .pointer (some ⟨a.g,0,none⟩)∧Aside0 (GAt w3 wc a (startG P ord 0) (.slice none 0 0)))
 case first =>
  refine wp_region_any (by kernel_rfl) ?_
  refine wpAny_of_held (S:=fun W=>W.heap[gb]? = some (.cells #[.slice A0 F.length c0,.slice A1 P.length c1] 25 (0,0))) _ _ _ _ ?_
  show wpAnyH _ _ _ _ _ 11 (Array.replicate 11 false) _ w3.drew
  have HS:Aside0 (w3.drew.heap[gb]? = some (.cells #[.slice A0 F.length c0,.slice A1 P.length c1] 25 (0,0))):=⟨HX3.out⟩
  have HB:Aside0 (Below w3.heap.size w3 w3.drew):=⟨below_drew (Below.refl _ _)⟩
  generalize w3.drew=wx at HS HB ⊢
  refine tK (v:=.agg #[.slice A0 F.length c0,.slice A1 P.length c1]) 0 HS.out (fun w9 h9=>?hy) ?_
  case hy=>(have z0:=(blk_cell h9 0).trans rfl;have z1:=(blk_cell h9 1).trans rfl;go_simp)
  try simp only [Act.put,zA,zB,zC]
  refine tK (v:=.slice A2 ord.length c2) 1 HS.out (fun w9 h9=>?hy) ?_
  case hy=>(skip;go_simp)
  try simp only [Act.put,zA,zB,zC]
  refine tK (v:=.int .i64 P.length) 3 HS.out (fun w9 h9=>?hy) ?_
  case hy=>(skip;go_simp)
  try simp only [Act.put,zA,zB,zC]
  refine tK (v:=.int .i64 P.length) 6 HS.out (fun w9 h9=>?hy) ?_
  case hy=>(skip;go_simp)
  try simp only [Act.put,zA,zB,zC]
  refine wpAnyH_ready (rs:=[2,4,5,7]) (by kernel_rfl) (by simp) ?_
  refine AllReadyH.cons (by rfl) (fun K hK0=>?_) ?_
  ·
   have hK:=zF (fun (a:Act) (w:World) h1=>hK0.out a w h1)
   clear hK0
   refine step_mapM (by rfl) 75 3 rfl Try.underlying75 ?_
   intro v2 hm hb
   have hsz:=HB.out.size
   have HLbt:Aside0 (w3.heap.size≤wx.heap.size):=⟨hsz⟩
   obtain ⟨bt,hq⟩:∃ q,q=wx.heap.size:=⟨_,rfl⟩
   rw [← hq] at hm HLbt ⊢
   have HT:=zF hm
   clear hm hq hsz
   replace HS:=zF (blk_below HS.out hb)
   replace HB:=zF (below_step HB.out hb)
   clear hb
   refine hK.out _ _ HS.out (fun _=>?_)
   try simp only [Act.put,zA,zB,zC]
   clear hK K
   refine wpAnyH_ready (rs:=[4,5,7]) (by kernel_rfl) (by simp) ?_
   refine AllReadyH.cons (by rfl) (fun K hK0=>?_) ?_
   ·
    have hK:=zF (fun (a:Act) (w:World) h1=>hK0.out a w h1)
    clear hK0
    refine step_mkB (by rfl) rfl (.tmp 29) (.tmp 29) rfl P.length (by rfl) (by rfl) hn w3.heap.size HB.out.size ?_
    intro AG cG v24 hR hb
    have HGn:=zF hR
    clear hR
    replace HT:=zF (HT.out.kept hb)
    replace HS:=zF (blk_below HS.out hb)
    replace HB:=zF (below_step HB.out hb)
    clear hb
    refine hK.out _ _ HS.out (fun _=>?_)
    try simp only [Act.put,zA,zB,zC]
    clear hK K
    refine wpAnyH_ready (rs:=[5,7]) (by kernel_rfl) (by simp) ?_
    refine AllReadyH.cons (by rfl) (fun K hK0=>?_) ?_
    ·
     have hK:=zF (fun (a:Act) (w:World) h1=>hK0.out a w h1)
     clear hK0
     refine step_mapM (by rfl) 37 4 rfl Try.underlying37 ?_
     intro v245 hm hb
     have hsz:=HB.out.size
     have hlt:=HT.out.lt
     have HLbk:Aside0 (w3.heap.size≤v24.heap.size):=⟨hsz⟩
     obtain ⟨bk,hq⟩:∃ q,q=v24.heap.size:=⟨_,rfl⟩
     rw [← hq] at hm HLbk ⊢
     have HNe:Aside0 (bt≠bk):=⟨by omega⟩
     clear hlt
     have HKm:=zF hm
     clear hm hq hsz
     replace HT:=zF (HT.out.kept hb)
     replace HGn:=zF (Kd.R_below HGn.out hb)
     replace HS:=zF (blk_below HS.out hb)
     replace HB:=zF (below_step HB.out hb)
     clear hb
     refine hK.out _ _ HS.out (fun _=>?_)
     try simp only [Act.put,zA,zB,zC]
     clear hK K
     refine wpAnyH_ready (rs:=[7]) (by kernel_rfl) (by simp) ?_
     refine AllReadyH.cons (by rfl) (fun K hK0=>?_) ?_
     ·
      have hK:=zF (fun (a:Act) (w:World) h1=>hK0.out a w h1)
      clear hK0
      refine step_mkI (by rfl) rfl (.tmp 32) (.tmp 32) rfl P.length (by rfl) (by rfl) hn w3.heap.size HB.out.size ?_
      intro AT cT v2457 hR hb
      have HTo:=zF hR
      clear hR
      replace HT:=zF (HT.out.kept hb)
      replace HGn:=zF (Kd.R_below HGn.out hb)
      replace HKm:=zF (HKm.out.kept hb)
      replace HS:=zF (blk_below HS.out hb)
      replace HB:=zF (below_step HB.out hb)
      clear hb
      refine hK.out _ _ HS.out (fun _=>?_)
      try simp only [Act.put,zA,zB,zC]
      clear hK K
      refine tK (v:=.agg #[.slice A0 F.length c0,.slice A1 P.length c1,.slice A2 ord.length c2,.map (some bt),.slice AG P.length cG,.map (some bk),.slice AT P.length cT,.slice none 0 0]) 8 HS.out (fun w9 h9=>?hy) ?_
      case hy=>(skip;go_simp)
      try simp only [Act.put,zA,zB,zC]
      refine only_held 9 rfl (by kernel_rfl) (fun K hK=>?_)
      rw [if_pos (by rfl)]
      go_simp
      have HS2:Aside0 ((v2457.alloc (.cells #[.slice A0 F.length c0,.slice A1 P.length c1,.slice A2 ord.length c2,.map (some bt),.slice AG P.length cG,.map (some bk),.slice AT P.length cT,.slice none 0 0] 78)).heap[gb]? = some (.cells #[.slice A0 F.length c0,.slice A1 P.length c1] 25 (0,0))):=⟨blk_alloc HS.out _⟩
      have HG2:Aside0 (GAt w3 (v2457.alloc (.cells #[.slice A0 F.length c0,.slice A1 P.length c1,.slice A2 ord.length c2,.map (some bt),.slice AG P.length cG,.map (some bk),.slice AT P.length cT,.slice none 0 0] 78)) ⟨v2457.heap.size,bt,bk,A0,F.length,c0,A1,c1,A2,c2,.slice AG P.length cG,.slice AT P.length cT⟩ (startG P ord 0) (.slice none 0 0)):=⟨startAt HB.out HT.out HGn.out HKm.out HTo.out HNe.out HLbt.out HLbk.out HR1w.out hPc HR2w.out hOc⟩
      refine hK.out _ _ HS2.out ?_
      try simp only [Act.put,zA,zB,zC]
      clear hK K HS HT HGn HKm HTo HNe HLbt HLbk
      generalize hq:v2457.alloc (.cells #[.slice A0 F.length c0,.slice A1 P.length c1,.slice A2 ord.length c2,.map (some bt),.slice AG P.length cG,.map (some bk),.slice AT P.length cT,.slice none 0 0] 78)=wf at HS2 HG2 ⊢
      clear hq
      have HS:=HS2
      clear HS2
      refine tK (v:=.pointer (some ⟨v2457.heap.size,0,none⟩)) 10 HS.out (fun w9 h9=>?hy) ?_
      case hy=>(skip;go_simp)
      try simp only [Act.put,zA,zB,zC]
      refine done_held (by kernel_rfl) ?_
      go_wp2
      go_meet
      case rel=>exact ⟨_,rfl,HG2⟩
     exact AllReadyH.nil
    refine AllReadyH.cons (by rfl) (fun K hK0=>?_) ?_
    ·
     have hK:=zF (fun (a:Act) (w:World) h1=>hK0.out a w h1)
     clear hK0
     refine step_mkI (by rfl) rfl (.tmp 32) (.tmp 32) rfl P.length (by rfl) (by rfl) hn w3.heap.size HB.out.size ?_
     intro AT cT v247 hR hb
     have HTo:=zF hR
     clear hR
     replace HT:=zF (HT.out.kept hb)
     replace HGn:=zF (Kd.R_below HGn.out hb)
     replace HS:=zF (blk_below HS.out hb)
     replace HB:=zF (below_step HB.out hb)
     clear hb
     refine hK.out _ _ HS.out (fun _=>?_)
     try simp only [Act.put,zA,zB,zC]
     clear hK K
     refine wpAnyH_ready (rs:=[5]) (by kernel_rfl) (by simp) ?_
     refine AllReadyH.cons (by rfl) (fun K hK0=>?_) ?_
     ·
      have hK:=zF (fun (a:Act) (w:World) h1=>hK0.out a w h1)
      clear hK0
      refine step_mapM (by rfl) 37 4 rfl Try.underlying37 ?_
      intro v2475 hm hb
      have hsz:=HB.out.size
      have hlt:=HT.out.lt
      have HLbk:Aside0 (w3.heap.size≤v247.heap.size):=⟨hsz⟩
      obtain ⟨bk,hq⟩:∃ q,q=v247.heap.size:=⟨_,rfl⟩
      rw [← hq] at hm HLbk ⊢
      have HNe:Aside0 (bt≠bk):=⟨by omega⟩
      clear hlt
      have HKm:=zF hm
      clear hm hq hsz
      replace HT:=zF (HT.out.kept hb)
      replace HGn:=zF (Kd.R_below HGn.out hb)
      replace HTo:=zF (Kd.R_below HTo.out hb)
      replace HS:=zF (blk_below HS.out hb)
      replace HB:=zF (below_step HB.out hb)
      clear hb
      refine hK.out _ _ HS.out (fun _=>?_)
      try simp only [Act.put,zA,zB,zC]
      clear hK K
      refine tK (v:=.agg #[.slice A0 F.length c0,.slice A1 P.length c1,.slice A2 ord.length c2,.map (some bt),.slice AG P.length cG,.map (some bk),.slice AT P.length cT,.slice none 0 0]) 8 HS.out (fun w9 h9=>?hy) ?_
      case hy=>(skip;go_simp)
      try simp only [Act.put,zA,zB,zC]
      refine only_held 9 rfl (by kernel_rfl) (fun K hK=>?_)
      rw [if_pos (by rfl)]
      go_simp
      have HS2:Aside0 ((v2475.alloc (.cells #[.slice A0 F.length c0,.slice A1 P.length c1,.slice A2 ord.length c2,.map (some bt),.slice AG P.length cG,.map (some bk),.slice AT P.length cT,.slice none 0 0] 78)).heap[gb]? = some (.cells #[.slice A0 F.length c0,.slice A1 P.length c1] 25 (0,0))):=⟨blk_alloc HS.out _⟩
      have HG2:Aside0 (GAt w3 (v2475.alloc (.cells #[.slice A0 F.length c0,.slice A1 P.length c1,.slice A2 ord.length c2,.map (some bt),.slice AG P.length cG,.map (some bk),.slice AT P.length cT,.slice none 0 0] 78)) ⟨v2475.heap.size,bt,bk,A0,F.length,c0,A1,c1,A2,c2,.slice AG P.length cG,.slice AT P.length cT⟩ (startG P ord 0) (.slice none 0 0)):=⟨startAt HB.out HT.out HGn.out HKm.out HTo.out HNe.out HLbt.out HLbk.out HR1w.out hPc HR2w.out hOc⟩
      refine hK.out _ _ HS2.out ?_
      try simp only [Act.put,zA,zB,zC]
      clear hK K HS HT HGn HKm HTo HNe HLbt HLbk
      generalize hq:v2475.alloc (.cells #[.slice A0 F.length c0,.slice A1 P.length c1,.slice A2 ord.length c2,.map (some bt),.slice AG P.length cG,.map (some bk),.slice AT P.length cT,.slice none 0 0] 78)=wf at HS2 HG2 ⊢
      clear hq
      have HS:=HS2
      clear HS2
      refine tK (v:=.pointer (some ⟨v2475.heap.size,0,none⟩)) 10 HS.out (fun w9 h9=>?hy) ?_
      case hy=>(skip;go_simp)
      try simp only [Act.put,zA,zB,zC]
      refine done_held (by kernel_rfl) ?_
      go_wp2
      go_meet
      case rel=>exact ⟨_,rfl,HG2⟩
     exact AllReadyH.nil
    exact AllReadyH.nil
   refine AllReadyH.cons (by rfl) (fun K hK0=>?_) ?_
   ·
    have hK:=zF (fun (a:Act) (w:World) h1=>hK0.out a w h1)
    clear hK0
    refine step_mapM (by rfl) 37 4 rfl Try.underlying37 ?_
    intro v25 hm hb
    have hsz:=HB.out.size
    have hlt:=HT.out.lt
    have HLbk:Aside0 (w3.heap.size≤v2.heap.size):=⟨hsz⟩
    obtain ⟨bk,hq⟩:∃ q,q=v2.heap.size:=⟨_,rfl⟩
    rw [← hq] at hm HLbk ⊢
    have HNe:Aside0 (bt≠bk):=⟨by omega⟩
    clear hlt
    have HKm:=zF hm
    clear hm hq hsz
    replace HT:=zF (HT.out.kept hb)
    replace HS:=zF (blk_below HS.out hb)
    replace HB:=zF (below_step HB.out hb)
    clear hb
    refine hK.out _ _ HS.out (fun _=>?_)
    try simp only [Act.put,zA,zB,zC]
    clear hK K
    refine wpAnyH_ready (rs:=[4,7]) (by kernel_rfl) (by simp) ?_
    refine AllReadyH.cons (by rfl) (fun K hK0=>?_) ?_
    ·
     have hK:=zF (fun (a:Act) (w:World) h1=>hK0.out a w h1)
     clear hK0
     refine step_mkB (by rfl) rfl (.tmp 29) (.tmp 29) rfl P.length (by rfl) (by rfl) hn w3.heap.size HB.out.size ?_
     intro AG cG v254 hR hb
     have HGn:=zF hR
     clear hR
     replace HT:=zF (HT.out.kept hb)
     replace HKm:=zF (HKm.out.kept hb)
     replace HS:=zF (blk_below HS.out hb)
     replace HB:=zF (below_step HB.out hb)
     clear hb
     refine hK.out _ _ HS.out (fun _=>?_)
     try simp only [Act.put,zA,zB,zC]
     clear hK K
     refine wpAnyH_ready (rs:=[7]) (by kernel_rfl) (by simp) ?_
     refine AllReadyH.cons (by rfl) (fun K hK0=>?_) ?_
     ·
      have hK:=zF (fun (a:Act) (w:World) h1=>hK0.out a w h1)
      clear hK0
      refine step_mkI (by rfl) rfl (.tmp 32) (.tmp 32) rfl P.length (by rfl) (by rfl) hn w3.heap.size HB.out.size ?_
      intro AT cT v2547 hR hb
      have HTo:=zF hR
      clear hR
      replace HT:=zF (HT.out.kept hb)
      replace HKm:=zF (HKm.out.kept hb)
      replace HGn:=zF (Kd.R_below HGn.out hb)
      replace HS:=zF (blk_below HS.out hb)
      replace HB:=zF (below_step HB.out hb)
      clear hb
      refine hK.out _ _ HS.out (fun _=>?_)
      try simp only [Act.put,zA,zB,zC]
      clear hK K
      refine tK (v:=.agg #[.slice A0 F.length c0,.slice A1 P.length c1,.slice A2 ord.length c2,.map (some bt),.slice AG P.length cG,.map (some bk),.slice AT P.length cT,.slice none 0 0]) 8 HS.out (fun w9 h9=>?hy) ?_
      case hy=>(skip;go_simp)
      try simp only [Act.put,zA,zB,zC]
      refine only_held 9 rfl (by kernel_rfl) (fun K hK=>?_)
      rw [if_pos (by rfl)]
      go_simp
      have HS2:Aside0 ((v2547.alloc (.cells #[.slice A0 F.length c0,.slice A1 P.length c1,.slice A2 ord.length c2,.map (some bt),.slice AG P.length cG,.map (some bk),.slice AT P.length cT,.slice none 0 0] 78)).heap[gb]? = some (.cells #[.slice A0 F.length c0,.slice A1 P.length c1] 25 (0,0))):=⟨blk_alloc HS.out _⟩
      have HG2:Aside0 (GAt w3 (v2547.alloc (.cells #[.slice A0 F.length c0,.slice A1 P.length c1,.slice A2 ord.length c2,.map (some bt),.slice AG P.length cG,.map (some bk),.slice AT P.length cT,.slice none 0 0] 78)) ⟨v2547.heap.size,bt,bk,A0,F.length,c0,A1,c1,A2,c2,.slice AG P.length cG,.slice AT P.length cT⟩ (startG P ord 0) (.slice none 0 0)):=⟨startAt HB.out HT.out HGn.out HKm.out HTo.out HNe.out HLbt.out HLbk.out HR1w.out hPc HR2w.out hOc⟩
      refine hK.out _ _ HS2.out ?_
      try simp only [Act.put,zA,zB,zC]
      clear hK K HS HT HGn HKm HTo HNe HLbt HLbk
      generalize hq:v2547.alloc (.cells #[.slice A0 F.length c0,.slice A1 P.length c1,.slice A2 ord.length c2,.map (some bt),.slice AG P.length cG,.map (some bk),.slice AT P.length cT,.slice none 0 0] 78)=wf at HS2 HG2 ⊢
      clear hq
      have HS:=HS2
      clear HS2
      refine tK (v:=.pointer (some ⟨v2547.heap.size,0,none⟩)) 10 HS.out (fun w9 h9=>?hy) ?_
      case hy=>(skip;go_simp)
      try simp only [Act.put,zA,zB,zC]
      refine done_held (by kernel_rfl) ?_
      go_wp2
      go_meet
      case rel=>exact ⟨_,rfl,HG2⟩
     exact AllReadyH.nil
    refine AllReadyH.cons (by rfl) (fun K hK0=>?_) ?_
    ·
     have hK:=zF (fun (a:Act) (w:World) h1=>hK0.out a w h1)
     clear hK0
     refine step_mkI (by rfl) rfl (.tmp 32) (.tmp 32) rfl P.length (by rfl) (by rfl) hn w3.heap.size HB.out.size ?_
     intro AT cT v257 hR hb
     have HTo:=zF hR
     clear hR
     replace HT:=zF (HT.out.kept hb)
     replace HKm:=zF (HKm.out.kept hb)
     replace HS:=zF (blk_below HS.out hb)
     replace HB:=zF (below_step HB.out hb)
     clear hb
     refine hK.out _ _ HS.out (fun _=>?_)
     try simp only [Act.put,zA,zB,zC]
     clear hK K
     refine wpAnyH_ready (rs:=[4]) (by kernel_rfl) (by simp) ?_
     refine AllReadyH.cons (by rfl) (fun K hK0=>?_) ?_
     ·
      have hK:=zF (fun (a:Act) (w:World) h1=>hK0.out a w h1)
      clear hK0
      refine step_mkB (by rfl) rfl (.tmp 29) (.tmp 29) rfl P.length (by rfl) (by rfl) hn w3.heap.size HB.out.size ?_
      intro AG cG v2574 hR hb
      have HGn:=zF hR
      clear hR
      replace HT:=zF (HT.out.kept hb)
      replace HKm:=zF (HKm.out.kept hb)
      replace HTo:=zF (Kd.R_below HTo.out hb)
      replace HS:=zF (blk_below HS.out hb)
      replace HB:=zF (below_step HB.out hb)
      clear hb
      refine hK.out _ _ HS.out (fun _=>?_)
      try simp only [Act.put,zA,zB,zC]
      clear hK K
      refine tK (v:=.agg #[.slice A0 F.length c0,.slice A1 P.length c1,.slice A2 ord.length c2,.map (some bt),.slice AG P.length cG,.map (some bk),.slice AT P.length cT,.slice none 0 0]) 8 HS.out (fun w9 h9=>?hy) ?_
      case hy=>(skip;go_simp)
      try simp only [Act.put,zA,zB,zC]
      refine only_held 9 rfl (by kernel_rfl) (fun K hK=>?_)
      rw [if_pos (by rfl)]
      go_simp
      have HS2:Aside0 ((v2574.alloc (.cells #[.slice A0 F.length c0,.slice A1 P.length c1,.slice A2 ord.length c2,.map (some bt),.slice AG P.length cG,.map (some bk),.slice AT P.length cT,.slice none 0 0] 78)).heap[gb]? = some (.cells #[.slice A0 F.length c0,.slice A1 P.length c1] 25 (0,0))):=⟨blk_alloc HS.out _⟩
      have HG2:Aside0 (GAt w3 (v2574.alloc (.cells #[.slice A0 F.length c0,.slice A1 P.length c1,.slice A2 ord.length c2,.map (some bt),.slice AG P.length cG,.map (some bk),.slice AT P.length cT,.slice none 0 0] 78)) ⟨v2574.heap.size,bt,bk,A0,F.length,c0,A1,c1,A2,c2,.slice AG P.length cG,.slice AT P.length cT⟩ (startG P ord 0) (.slice none 0 0)):=⟨startAt HB.out HT.out HGn.out HKm.out HTo.out HNe.out HLbt.out HLbk.out HR1w.out hPc HR2w.out hOc⟩
      refine hK.out _ _ HS2.out ?_
      try simp only [Act.put,zA,zB,zC]
      clear hK K HS HT HGn HKm HTo HNe HLbt HLbk
      generalize hq:v2574.alloc (.cells #[.slice A0 F.length c0,.slice A1 P.length c1,.slice A2 ord.length c2,.map (some bt),.slice AG P.length cG,.map (some bk),.slice AT P.length cT,.slice none 0 0] 78)=wf at HS2 HG2 ⊢
      clear hq
      have HS:=HS2
      clear HS2
      refine tK (v:=.pointer (some ⟨v2574.heap.size,0,none⟩)) 10 HS.out (fun w9 h9=>?hy) ?_
      case hy=>(skip;go_simp)
      try simp only [Act.put,zA,zB,zC]
      refine done_held (by kernel_rfl) ?_
      go_wp2
      go_meet
      case rel=>exact ⟨_,rfl,HG2⟩
     exact AllReadyH.nil
    exact AllReadyH.nil
   refine AllReadyH.cons (by rfl) (fun K hK0=>?_) ?_
   ·
    have hK:=zF (fun (a:Act) (w:World) h1=>hK0.out a w h1)
    clear hK0
    refine step_mkI (by rfl) rfl (.tmp 32) (.tmp 32) rfl P.length (by rfl) (by rfl) hn w3.heap.size HB.out.size ?_
    intro AT cT v27 hR hb
    have HTo:=zF hR
    clear hR
    replace HT:=zF (HT.out.kept hb)
    replace HS:=zF (blk_below HS.out hb)
    replace HB:=zF (below_step HB.out hb)
    clear hb
    refine hK.out _ _ HS.out (fun _=>?_)
    try simp only [Act.put,zA,zB,zC]
    clear hK K
    refine wpAnyH_ready (rs:=[4,5]) (by kernel_rfl) (by simp) ?_
    refine AllReadyH.cons (by rfl) (fun K hK0=>?_) ?_
    ·
     have hK:=zF (fun (a:Act) (w:World) h1=>hK0.out a w h1)
     clear hK0
     refine step_mkB (by rfl) rfl (.tmp 29) (.tmp 29) rfl P.length (by rfl) (by rfl) hn w3.heap.size HB.out.size ?_
     intro AG cG v274 hR hb
     have HGn:=zF hR
     clear hR
     replace HT:=zF (HT.out.kept hb)
     replace HTo:=zF (Kd.R_below HTo.out hb)
     replace HS:=zF (blk_below HS.out hb)
     replace HB:=zF (below_step HB.out hb)
     clear hb
     refine hK.out _ _ HS.out (fun _=>?_)
     try simp only [Act.put,zA,zB,zC]
     clear hK K
     refine wpAnyH_ready (rs:=[5]) (by kernel_rfl) (by simp) ?_
     refine AllReadyH.cons (by rfl) (fun K hK0=>?_) ?_
     ·
      have hK:=zF (fun (a:Act) (w:World) h1=>hK0.out a w h1)
      clear hK0
      refine step_mapM (by rfl) 37 4 rfl Try.underlying37 ?_
      intro v2745 hm hb
      have hsz:=HB.out.size
      have hlt:=HT.out.lt
      have HLbk:Aside0 (w3.heap.size≤v274.heap.size):=⟨hsz⟩
      obtain ⟨bk,hq⟩:∃ q,q=v274.heap.size:=⟨_,rfl⟩
      rw [← hq] at hm HLbk ⊢
      have HNe:Aside0 (bt≠bk):=⟨by omega⟩
      clear hlt
      have HKm:=zF hm
      clear hm hq hsz
      replace HT:=zF (HT.out.kept hb)
      replace HTo:=zF (Kd.R_below HTo.out hb)
      replace HGn:=zF (Kd.R_below HGn.out hb)
      replace HS:=zF (blk_below HS.out hb)
      replace HB:=zF (below_step HB.out hb)
      clear hb
      refine hK.out _ _ HS.out (fun _=>?_)
      try simp only [Act.put,zA,zB,zC]
      clear hK K
      refine tK (v:=.agg #[.slice A0 F.length c0,.slice A1 P.length c1,.slice A2 ord.length c2,.map (some bt),.slice AG P.length cG,.map (some bk),.slice AT P.length cT,.slice none 0 0]) 8 HS.out (fun w9 h9=>?hy) ?_
      case hy=>(skip;go_simp)
      try simp only [Act.put,zA,zB,zC]
      refine only_held 9 rfl (by kernel_rfl) (fun K hK=>?_)
      rw [if_pos (by rfl)]
      go_simp
      have HS2:Aside0 ((v2745.alloc (.cells #[.slice A0 F.length c0,.slice A1 P.length c1,.slice A2 ord.length c2,.map (some bt),.slice AG P.length cG,.map (some bk),.slice AT P.length cT,.slice none 0 0] 78)).heap[gb]? = some (.cells #[.slice A0 F.length c0,.slice A1 P.length c1] 25 (0,0))):=⟨blk_alloc HS.out _⟩
      have HG2:Aside0 (GAt w3 (v2745.alloc (.cells #[.slice A0 F.length c0,.slice A1 P.length c1,.slice A2 ord.length c2,.map (some bt),.slice AG P.length cG,.map (some bk),.slice AT P.length cT,.slice none 0 0] 78)) ⟨v2745.heap.size,bt,bk,A0,F.length,c0,A1,c1,A2,c2,.slice AG P.length cG,.slice AT P.length cT⟩ (startG P ord 0) (.slice none 0 0)):=⟨startAt HB.out HT.out HGn.out HKm.out HTo.out HNe.out HLbt.out HLbk.out HR1w.out hPc HR2w.out hOc⟩
      refine hK.out _ _ HS2.out ?_
      try simp only [Act.put,zA,zB,zC]
      clear hK K HS HT HGn HKm HTo HNe HLbt HLbk
      generalize hq:v2745.alloc (.cells #[.slice A0 F.length c0,.slice A1 P.length c1,.slice A2 ord.length c2,.map (some bt),.slice AG P.length cG,.map (some bk),.slice AT P.length cT,.slice none 0 0] 78)=wf at HS2 HG2 ⊢
      clear hq
      have HS:=HS2
      clear HS2
      refine tK (v:=.pointer (some ⟨v2745.heap.size,0,none⟩)) 10 HS.out (fun w9 h9=>?hy) ?_
      case hy=>(skip;go_simp)
      try simp only [Act.put,zA,zB,zC]
      refine done_held (by kernel_rfl) ?_
      go_wp2
      go_meet
      case rel=>exact ⟨_,rfl,HG2⟩
     exact AllReadyH.nil
    refine AllReadyH.cons (by rfl) (fun K hK0=>?_) ?_
    ·
     have hK:=zF (fun (a:Act) (w:World) h1=>hK0.out a w h1)
     clear hK0
     refine step_mapM (by rfl) 37 4 rfl Try.underlying37 ?_
     intro v275 hm hb
     have hsz:=HB.out.size
     have hlt:=HT.out.lt
     have HLbk:Aside0 (w3.heap.size≤v27.heap.size):=⟨hsz⟩
     obtain ⟨bk,hq⟩:∃ q,q=v27.heap.size:=⟨_,rfl⟩
     rw [← hq] at hm HLbk ⊢
     have HNe:Aside0 (bt≠bk):=⟨by omega⟩
     clear hlt
     have HKm:=zF hm
     clear hm hq hsz
     replace HT:=zF (HT.out.kept hb)
     replace HTo:=zF (Kd.R_below HTo.out hb)
     replace HS:=zF (blk_below HS.out hb)
     replace HB:=zF (below_step HB.out hb)
     clear hb
     refine hK.out _ _ HS.out (fun _=>?_)
     try simp only [Act.put,zA,zB,zC]
     clear hK K
     refine wpAnyH_ready (rs:=[4]) (by kernel_rfl) (by simp) ?_
     refine AllReadyH.cons (by rfl) (fun K hK0=>?_) ?_
     ·
      have hK:=zF (fun (a:Act) (w:World) h1=>hK0.out a w h1)
      clear hK0
      refine step_mkB (by rfl) rfl (.tmp 29) (.tmp 29) rfl P.length (by rfl) (by rfl) hn w3.heap.size HB.out.size ?_
      intro AG cG v2754 hR hb
      have HGn:=zF hR
      clear hR
      replace HT:=zF (HT.out.kept hb)
      replace HTo:=zF (Kd.R_below HTo.out hb)
      replace HKm:=zF (HKm.out.kept hb)
      replace HS:=zF (blk_below HS.out hb)
      replace HB:=zF (below_step HB.out hb)
      clear hb
      refine hK.out _ _ HS.out (fun _=>?_)
      try simp only [Act.put,zA,zB,zC]
      clear hK K
      refine tK (v:=.agg #[.slice A0 F.length c0,.slice A1 P.length c1,.slice A2 ord.length c2,.map (some bt),.slice AG P.length cG,.map (some bk),.slice AT P.length cT,.slice none 0 0]) 8 HS.out (fun w9 h9=>?hy) ?_
      case hy=>(skip;go_simp)
      try simp only [Act.put,zA,zB,zC]
      refine only_held 9 rfl (by kernel_rfl) (fun K hK=>?_)
      rw [if_pos (by rfl)]
      go_simp
      have HS2:Aside0 ((v2754.alloc (.cells #[.slice A0 F.length c0,.slice A1 P.length c1,.slice A2 ord.length c2,.map (some bt),.slice AG P.length cG,.map (some bk),.slice AT P.length cT,.slice none 0 0] 78)).heap[gb]? = some (.cells #[.slice A0 F.length c0,.slice A1 P.length c1] 25 (0,0))):=⟨blk_alloc HS.out _⟩
      have HG2:Aside0 (GAt w3 (v2754.alloc (.cells #[.slice A0 F.length c0,.slice A1 P.length c1,.slice A2 ord.length c2,.map (some bt),.slice AG P.length cG,.map (some bk),.slice AT P.length cT,.slice none 0 0] 78)) ⟨v2754.heap.size,bt,bk,A0,F.length,c0,A1,c1,A2,c2,.slice AG P.length cG,.slice AT P.length cT⟩ (startG P ord 0) (.slice none 0 0)):=⟨startAt HB.out HT.out HGn.out HKm.out HTo.out HNe.out HLbt.out HLbk.out HR1w.out hPc HR2w.out hOc⟩
      refine hK.out _ _ HS2.out ?_
      try simp only [Act.put,zA,zB,zC]
      clear hK K HS HT HGn HKm HTo HNe HLbt HLbk
      generalize hq:v2754.alloc (.cells #[.slice A0 F.length c0,.slice A1 P.length c1,.slice A2 ord.length c2,.map (some bt),.slice AG P.length cG,.map (some bk),.slice AT P.length cT,.slice none 0 0] 78)=wf at HS2 HG2 ⊢
      clear hq
      have HS:=HS2
      clear HS2
      refine tK (v:=.pointer (some ⟨v2754.heap.size,0,none⟩)) 10 HS.out (fun w9 h9=>?hy) ?_
      case hy=>(skip;go_simp)
      try simp only [Act.put,zA,zB,zC]
      refine done_held (by kernel_rfl) ?_
      go_wp2
      go_meet
      case rel=>exact ⟨_,rfl,HG2⟩
     exact AllReadyH.nil
    exact AllReadyH.nil
   exact AllReadyH.nil
  refine AllReadyH.cons (by rfl) (fun K hK0=>?_) ?_
  ·
   have hK:=zF (fun (a:Act) (w:World) h1=>hK0.out a w h1)
   clear hK0
   refine step_mkB (by rfl) rfl (.tmp 29) (.tmp 29) rfl P.length (by rfl) (by rfl) hn w3.heap.size HB.out.size ?_
   intro AG cG v4 hR hb
   have HGn:=zF hR
   clear hR
   replace HS:=zF (blk_below HS.out hb)
   replace HB:=zF (below_step HB.out hb)
   clear hb
   refine hK.out _ _ HS.out (fun _=>?_)
   try simp only [Act.put,zA,zB,zC]
   clear hK K
   refine wpAnyH_ready (rs:=[2,5,7]) (by kernel_rfl) (by simp) ?_
   refine AllReadyH.cons (by rfl) (fun K hK0=>?_) ?_
   ·
    have hK:=zF (fun (a:Act) (w:World) h1=>hK0.out a w h1)
    clear hK0
    refine step_mapM (by rfl) 75 3 rfl Try.underlying75 ?_
    intro v42 hm hb
    have hsz:=HB.out.size
    have HLbt:Aside0 (w3.heap.size≤v4.heap.size):=⟨hsz⟩
    obtain ⟨bt,hq⟩:∃ q,q=v4.heap.size:=⟨_,rfl⟩
    rw [← hq] at hm HLbt ⊢
    have HT:=zF hm
    clear hm hq hsz
    replace HGn:=zF (Kd.R_below HGn.out hb)
    replace HS:=zF (blk_below HS.out hb)
    replace HB:=zF (below_step HB.out hb)
    clear hb
    refine hK.out _ _ HS.out (fun _=>?_)
    try simp only [Act.put,zA,zB,zC]
    clear hK K
    refine wpAnyH_ready (rs:=[5,7]) (by kernel_rfl) (by simp) ?_
    refine AllReadyH.cons (by rfl) (fun K hK0=>?_) ?_
    ·
     have hK:=zF (fun (a:Act) (w:World) h1=>hK0.out a w h1)
     clear hK0
     refine step_mapM (by rfl) 37 4 rfl Try.underlying37 ?_
     intro v425 hm hb
     have hsz:=HB.out.size
     have hlt:=HT.out.lt
     have HLbk:Aside0 (w3.heap.size≤v42.heap.size):=⟨hsz⟩
     obtain ⟨bk,hq⟩:∃ q,q=v42.heap.size:=⟨_,rfl⟩
     rw [← hq] at hm HLbk ⊢
     have HNe:Aside0 (bt≠bk):=⟨by omega⟩
     clear hlt
     have HKm:=zF hm
     clear hm hq hsz
     replace HGn:=zF (Kd.R_below HGn.out hb)
     replace HT:=zF (HT.out.kept hb)
     replace HS:=zF (blk_below HS.out hb)
     replace HB:=zF (below_step HB.out hb)
     clear hb
     refine hK.out _ _ HS.out (fun _=>?_)
     try simp only [Act.put,zA,zB,zC]
     clear hK K
     refine wpAnyH_ready (rs:=[7]) (by kernel_rfl) (by simp) ?_
     refine AllReadyH.cons (by rfl) (fun K hK0=>?_) ?_
     ·
      have hK:=zF (fun (a:Act) (w:World) h1=>hK0.out a w h1)
      clear hK0
      refine step_mkI (by rfl) rfl (.tmp 32) (.tmp 32) rfl P.length (by rfl) (by rfl) hn w3.heap.size HB.out.size ?_
      intro AT cT v4257 hR hb
      have HTo:=zF hR
      clear hR
      replace HGn:=zF (Kd.R_below HGn.out hb)
      replace HT:=zF (HT.out.kept hb)
      replace HKm:=zF (HKm.out.kept hb)
      replace HS:=zF (blk_below HS.out hb)
      replace HB:=zF (below_step HB.out hb)
      clear hb
      refine hK.out _ _ HS.out (fun _=>?_)
      try simp only [Act.put,zA,zB,zC]
      clear hK K
      refine tK (v:=.agg #[.slice A0 F.length c0,.slice A1 P.length c1,.slice A2 ord.length c2,.map (some bt),.slice AG P.length cG,.map (some bk),.slice AT P.length cT,.slice none 0 0]) 8 HS.out (fun w9 h9=>?hy) ?_
      case hy=>(skip;go_simp)
      try simp only [Act.put,zA,zB,zC]
      refine only_held 9 rfl (by kernel_rfl) (fun K hK=>?_)
      rw [if_pos (by rfl)]
      go_simp
      have HS2:Aside0 ((v4257.alloc (.cells #[.slice A0 F.length c0,.slice A1 P.length c1,.slice A2 ord.length c2,.map (some bt),.slice AG P.length cG,.map (some bk),.slice AT P.length cT,.slice none 0 0] 78)).heap[gb]? = some (.cells #[.slice A0 F.length c0,.slice A1 P.length c1] 25 (0,0))):=⟨blk_alloc HS.out _⟩
      have HG2:Aside0 (GAt w3 (v4257.alloc (.cells #[.slice A0 F.length c0,.slice A1 P.length c1,.slice A2 ord.length c2,.map (some bt),.slice AG P.length cG,.map (some bk),.slice AT P.length cT,.slice none 0 0] 78)) ⟨v4257.heap.size,bt,bk,A0,F.length,c0,A1,c1,A2,c2,.slice AG P.length cG,.slice AT P.length cT⟩ (startG P ord 0) (.slice none 0 0)):=⟨startAt HB.out HT.out HGn.out HKm.out HTo.out HNe.out HLbt.out HLbk.out HR1w.out hPc HR2w.out hOc⟩
      refine hK.out _ _ HS2.out ?_
      try simp only [Act.put,zA,zB,zC]
      clear hK K HS HT HGn HKm HTo HNe HLbt HLbk
      generalize hq:v4257.alloc (.cells #[.slice A0 F.length c0,.slice A1 P.length c1,.slice A2 ord.length c2,.map (some bt),.slice AG P.length cG,.map (some bk),.slice AT P.length cT,.slice none 0 0] 78)=wf at HS2 HG2 ⊢
      clear hq
      have HS:=HS2
      clear HS2
      refine tK (v:=.pointer (some ⟨v4257.heap.size,0,none⟩)) 10 HS.out (fun w9 h9=>?hy) ?_
      case hy=>(skip;go_simp)
      try simp only [Act.put,zA,zB,zC]
      refine done_held (by kernel_rfl) ?_
      go_wp2
      go_meet
      case rel=>exact ⟨_,rfl,HG2⟩
     exact AllReadyH.nil
    refine AllReadyH.cons (by rfl) (fun K hK0=>?_) ?_
    ·
     have hK:=zF (fun (a:Act) (w:World) h1=>hK0.out a w h1)
     clear hK0
     refine step_mkI (by rfl) rfl (.tmp 32) (.tmp 32) rfl P.length (by rfl) (by rfl) hn w3.heap.size HB.out.size ?_
     intro AT cT v427 hR hb
     have HTo:=zF hR
     clear hR
     replace HGn:=zF (Kd.R_below HGn.out hb)
     replace HT:=zF (HT.out.kept hb)
     replace HS:=zF (blk_below HS.out hb)
     replace HB:=zF (below_step HB.out hb)
     clear hb
     refine hK.out _ _ HS.out (fun _=>?_)
     try simp only [Act.put,zA,zB,zC]
     clear hK K
     refine wpAnyH_ready (rs:=[5]) (by kernel_rfl) (by simp) ?_
     refine AllReadyH.cons (by rfl) (fun K hK0=>?_) ?_
     ·
      have hK:=zF (fun (a:Act) (w:World) h1=>hK0.out a w h1)
      clear hK0
      refine step_mapM (by rfl) 37 4 rfl Try.underlying37 ?_
      intro v4275 hm hb
      have hsz:=HB.out.size
      have hlt:=HT.out.lt
      have HLbk:Aside0 (w3.heap.size≤v427.heap.size):=⟨hsz⟩
      obtain ⟨bk,hq⟩:∃ q,q=v427.heap.size:=⟨_,rfl⟩
      rw [← hq] at hm HLbk ⊢
      have HNe:Aside0 (bt≠bk):=⟨by omega⟩
      clear hlt
      have HKm:=zF hm
      clear hm hq hsz
      replace HGn:=zF (Kd.R_below HGn.out hb)
      replace HT:=zF (HT.out.kept hb)
      replace HTo:=zF (Kd.R_below HTo.out hb)
      replace HS:=zF (blk_below HS.out hb)
      replace HB:=zF (below_step HB.out hb)
      clear hb
      refine hK.out _ _ HS.out (fun _=>?_)
      try simp only [Act.put,zA,zB,zC]
      clear hK K
      refine tK (v:=.agg #[.slice A0 F.length c0,.slice A1 P.length c1,.slice A2 ord.length c2,.map (some bt),.slice AG P.length cG,.map (some bk),.slice AT P.length cT,.slice none 0 0]) 8 HS.out (fun w9 h9=>?hy) ?_
      case hy=>(skip;go_simp)
      try simp only [Act.put,zA,zB,zC]
      refine only_held 9 rfl (by kernel_rfl) (fun K hK=>?_)
      rw [if_pos (by rfl)]
      go_simp
      have HS2:Aside0 ((v4275.alloc (.cells #[.slice A0 F.length c0,.slice A1 P.length c1,.slice A2 ord.length c2,.map (some bt),.slice AG P.length cG,.map (some bk),.slice AT P.length cT,.slice none 0 0] 78)).heap[gb]? = some (.cells #[.slice A0 F.length c0,.slice A1 P.length c1] 25 (0,0))):=⟨blk_alloc HS.out _⟩
      have HG2:Aside0 (GAt w3 (v4275.alloc (.cells #[.slice A0 F.length c0,.slice A1 P.length c1,.slice A2 ord.length c2,.map (some bt),.slice AG P.length cG,.map (some bk),.slice AT P.length cT,.slice none 0 0] 78)) ⟨v4275.heap.size,bt,bk,A0,F.length,c0,A1,c1,A2,c2,.slice AG P.length cG,.slice AT P.length cT⟩ (startG P ord 0) (.slice none 0 0)):=⟨startAt HB.out HT.out HGn.out HKm.out HTo.out HNe.out HLbt.out HLbk.out HR1w.out hPc HR2w.out hOc⟩
      refine hK.out _ _ HS2.out ?_
      try simp only [Act.put,zA,zB,zC]
      clear hK K HS HT HGn HKm HTo HNe HLbt HLbk
      generalize hq:v4275.alloc (.cells #[.slice A0 F.length c0,.slice A1 P.length c1,.slice A2 ord.length c2,.map (some bt),.slice AG P.length cG,.map (some bk),.slice AT P.length cT,.slice none 0 0] 78)=wf at HS2 HG2 ⊢
      clear hq
      have HS:=HS2
      clear HS2
      refine tK (v:=.pointer (some ⟨v4275.heap.size,0,none⟩)) 10 HS.out (fun w9 h9=>?hy) ?_
      case hy=>(skip;go_simp)
      try simp only [Act.put,zA,zB,zC]
      refine done_held (by kernel_rfl) ?_
      go_wp2
      go_meet
      case rel=>exact ⟨_,rfl,HG2⟩
     exact AllReadyH.nil
    exact AllReadyH.nil
   refine AllReadyH.cons (by rfl) (fun K hK0=>?_) ?_
   ·
    have hK:=zF (fun (a:Act) (w:World) h1=>hK0.out a w h1)
    clear hK0
    refine step_mapM (by rfl) 37 4 rfl Try.underlying37 ?_
    intro v45 hm hb
    have hsz:=HB.out.size
    have HLbk:Aside0 (w3.heap.size≤v4.heap.size):=⟨hsz⟩
    obtain ⟨bk,hq⟩:∃ q,q=v4.heap.size:=⟨_,rfl⟩
    rw [← hq] at hm HLbk ⊢
    have HKm:=zF hm
    clear hm hq hsz
    replace HGn:=zF (Kd.R_below HGn.out hb)
    replace HS:=zF (blk_below HS.out hb)
    replace HB:=zF (below_step HB.out hb)
    clear hb
    refine hK.out _ _ HS.out (fun _=>?_)
    try simp only [Act.put,zA,zB,zC]
    clear hK K
    refine wpAnyH_ready (rs:=[2,7]) (by kernel_rfl) (by simp) ?_
    refine AllReadyH.cons (by rfl) (fun K hK0=>?_) ?_
    ·
     have hK:=zF (fun (a:Act) (w:World) h1=>hK0.out a w h1)
     clear hK0
     refine step_mapM (by rfl) 75 3 rfl Try.underlying75 ?_
     intro v452 hm hb
     have hsz:=HB.out.size
     have hlt:=HKm.out.lt
     have HLbt:Aside0 (w3.heap.size≤v45.heap.size):=⟨hsz⟩
     obtain ⟨bt,hq⟩:∃ q,q=v45.heap.size:=⟨_,rfl⟩
     rw [← hq] at hm HLbt ⊢
     have HNe:Aside0 (bt≠bk):=⟨by omega⟩
     clear hlt
     have HT:=zF hm
     clear hm hq hsz
     replace HGn:=zF (Kd.R_below HGn.out hb)
     replace HKm:=zF (HKm.out.kept hb)
     replace HS:=zF (blk_below HS.out hb)
     replace HB:=zF (below_step HB.out hb)
     clear hb
     refine hK.out _ _ HS.out (fun _=>?_)
     try simp only [Act.put,zA,zB,zC]
     clear hK K
     refine wpAnyH_ready (rs:=[7]) (by kernel_rfl) (by simp) ?_
     refine AllReadyH.cons (by rfl) (fun K hK0=>?_) ?_
     ·
      have hK:=zF (fun (a:Act) (w:World) h1=>hK0.out a w h1)
      clear hK0
      refine step_mkI (by rfl) rfl (.tmp 32) (.tmp 32) rfl P.length (by rfl) (by rfl) hn w3.heap.size HB.out.size ?_
      intro AT cT v4527 hR hb
      have HTo:=zF hR
      clear hR
      replace HGn:=zF (Kd.R_below HGn.out hb)
      replace HKm:=zF (HKm.out.kept hb)
      replace HT:=zF (HT.out.kept hb)
      replace HS:=zF (blk_below HS.out hb)
      replace HB:=zF (below_step HB.out hb)
      clear hb
      refine hK.out _ _ HS.out (fun _=>?_)
      try simp only [Act.put,zA,zB,zC]
      clear hK K
      refine tK (v:=.agg #[.slice A0 F.length c0,.slice A1 P.length c1,.slice A2 ord.length c2,.map (some bt),.slice AG P.length cG,.map (some bk),.slice AT P.length cT,.slice none 0 0]) 8 HS.out (fun w9 h9=>?hy) ?_
      case hy=>(skip;go_simp)
      try simp only [Act.put,zA,zB,zC]
      refine only_held 9 rfl (by kernel_rfl) (fun K hK=>?_)
      rw [if_pos (by rfl)]
      go_simp
      have HS2:Aside0 ((v4527.alloc (.cells #[.slice A0 F.length c0,.slice A1 P.length c1,.slice A2 ord.length c2,.map (some bt),.slice AG P.length cG,.map (some bk),.slice AT P.length cT,.slice none 0 0] 78)).heap[gb]? = some (.cells #[.slice A0 F.length c0,.slice A1 P.length c1] 25 (0,0))):=⟨blk_alloc HS.out _⟩
      have HG2:Aside0 (GAt w3 (v4527.alloc (.cells #[.slice A0 F.length c0,.slice A1 P.length c1,.slice A2 ord.length c2,.map (some bt),.slice AG P.length cG,.map (some bk),.slice AT P.length cT,.slice none 0 0] 78)) ⟨v4527.heap.size,bt,bk,A0,F.length,c0,A1,c1,A2,c2,.slice AG P.length cG,.slice AT P.length cT⟩ (startG P ord 0) (.slice none 0 0)):=⟨startAt HB.out HT.out HGn.out HKm.out HTo.out HNe.out HLbt.out HLbk.out HR1w.out hPc HR2w.out hOc⟩
      refine hK.out _ _ HS2.out ?_
      try simp only [Act.put,zA,zB,zC]
      clear hK K HS HT HGn HKm HTo HNe HLbt HLbk
      generalize hq:v4527.alloc (.cells #[.slice A0 F.length c0,.slice A1 P.length c1,.slice A2 ord.length c2,.map (some bt),.slice AG P.length cG,.map (some bk),.slice AT P.length cT,.slice none 0 0] 78)=wf at HS2 HG2 ⊢
      clear hq
      have HS:=HS2
      clear HS2
      refine tK (v:=.pointer (some ⟨v4527.heap.size,0,none⟩)) 10 HS.out (fun w9 h9=>?hy) ?_
      case hy=>(skip;go_simp)
      try simp only [Act.put,zA,zB,zC]
      refine done_held (by kernel_rfl) ?_
      go_wp2
      go_meet
      case rel=>exact ⟨_,rfl,HG2⟩
     exact AllReadyH.nil
    refine AllReadyH.cons (by rfl) (fun K hK0=>?_) ?_
    ·
     have hK:=zF (fun (a:Act) (w:World) h1=>hK0.out a w h1)
     clear hK0
     refine step_mkI (by rfl) rfl (.tmp 32) (.tmp 32) rfl P.length (by rfl) (by rfl) hn w3.heap.size HB.out.size ?_
     intro AT cT v457 hR hb
     have HTo:=zF hR
     clear hR
     replace HGn:=zF (Kd.R_below HGn.out hb)
     replace HKm:=zF (HKm.out.kept hb)
     replace HS:=zF (blk_below HS.out hb)
     replace HB:=zF (below_step HB.out hb)
     clear hb
     refine hK.out _ _ HS.out (fun _=>?_)
     try simp only [Act.put,zA,zB,zC]
     clear hK K
     refine wpAnyH_ready (rs:=[2]) (by kernel_rfl) (by simp) ?_
     refine AllReadyH.cons (by rfl) (fun K hK0=>?_) ?_
     ·
      have hK:=zF (fun (a:Act) (w:World) h1=>hK0.out a w h1)
      clear hK0
      refine step_mapM (by rfl) 75 3 rfl Try.underlying75 ?_
      intro v4572 hm hb
      have hsz:=HB.out.size
      have hlt:=HKm.out.lt
      have HLbt:Aside0 (w3.heap.size≤v457.heap.size):=⟨hsz⟩
      obtain ⟨bt,hq⟩:∃ q,q=v457.heap.size:=⟨_,rfl⟩
      rw [← hq] at hm HLbt ⊢
      have HNe:Aside0 (bt≠bk):=⟨by omega⟩
      clear hlt
      have HT:=zF hm
      clear hm hq hsz
      replace HGn:=zF (Kd.R_below HGn.out hb)
      replace HKm:=zF (HKm.out.kept hb)
      replace HTo:=zF (Kd.R_below HTo.out hb)
      replace HS:=zF (blk_below HS.out hb)
      replace HB:=zF (below_step HB.out hb)
      clear hb
      refine hK.out _ _ HS.out (fun _=>?_)
      try simp only [Act.put,zA,zB,zC]
      clear hK K
      refine tK (v:=.agg #[.slice A0 F.length c0,.slice A1 P.length c1,.slice A2 ord.length c2,.map (some bt),.slice AG P.length cG,.map (some bk),.slice AT P.length cT,.slice none 0 0]) 8 HS.out (fun w9 h9=>?hy) ?_
      case hy=>(skip;go_simp)
      try simp only [Act.put,zA,zB,zC]
      refine only_held 9 rfl (by kernel_rfl) (fun K hK=>?_)
      rw [if_pos (by rfl)]
      go_simp
      have HS2:Aside0 ((v4572.alloc (.cells #[.slice A0 F.length c0,.slice A1 P.length c1,.slice A2 ord.length c2,.map (some bt),.slice AG P.length cG,.map (some bk),.slice AT P.length cT,.slice none 0 0] 78)).heap[gb]? = some (.cells #[.slice A0 F.length c0,.slice A1 P.length c1] 25 (0,0))):=⟨blk_alloc HS.out _⟩
      have HG2:Aside0 (GAt w3 (v4572.alloc (.cells #[.slice A0 F.length c0,.slice A1 P.length c1,.slice A2 ord.length c2,.map (some bt),.slice AG P.length cG,.map (some bk),.slice AT P.length cT,.slice none 0 0] 78)) ⟨v4572.heap.size,bt,bk,A0,F.length,c0,A1,c1,A2,c2,.slice AG P.length cG,.slice AT P.length cT⟩ (startG P ord 0) (.slice none 0 0)):=⟨startAt HB.out HT.out HGn.out HKm.out HTo.out HNe.out HLbt.out HLbk.out HR1w.out hPc HR2w.out hOc⟩
      refine hK.out _ _ HS2.out ?_
      try simp only [Act.put,zA,zB,zC]
      clear hK K HS HT HGn HKm HTo HNe HLbt HLbk
      generalize hq:v4572.alloc (.cells #[.slice A0 F.length c0,.slice A1 P.length c1,.slice A2 ord.length c2,.map (some bt),.slice AG P.length cG,.map (some bk),.slice AT P.length cT,.slice none 0 0] 78)=wf at HS2 HG2 ⊢
      clear hq
      have HS:=HS2
      clear HS2
      refine tK (v:=.pointer (some ⟨v4572.heap.size,0,none⟩)) 10 HS.out (fun w9 h9=>?hy) ?_
      case hy=>(skip;go_simp)
      try simp only [Act.put,zA,zB,zC]
      refine done_held (by kernel_rfl) ?_
      go_wp2
      go_meet
      case rel=>exact ⟨_,rfl,HG2⟩
     exact AllReadyH.nil
    exact AllReadyH.nil
   refine AllReadyH.cons (by rfl) (fun K hK0=>?_) ?_
   ·
    have hK:=zF (fun (a:Act) (w:World) h1=>hK0.out a w h1)
    clear hK0
    refine step_mkI (by rfl) rfl (.tmp 32) (.tmp 32) rfl P.length (by rfl) (by rfl) hn w3.heap.size HB.out.size ?_
    intro AT cT v47 hR hb
    have HTo:=zF hR
    clear hR
    replace HGn:=zF (Kd.R_below HGn.out hb)
    replace HS:=zF (blk_below HS.out hb)
    replace HB:=zF (below_step HB.out hb)
    clear hb
    refine hK.out _ _ HS.out (fun _=>?_)
    try simp only [Act.put,zA,zB,zC]
    clear hK K
    refine wpAnyH_ready (rs:=[2,5]) (by kernel_rfl) (by simp) ?_
    refine AllReadyH.cons (by rfl) (fun K hK0=>?_) ?_
    ·
     have hK:=zF (fun (a:Act) (w:World) h1=>hK0.out a w h1)
     clear hK0
     refine step_mapM (by rfl) 75 3 rfl Try.underlying75 ?_
     intro v472 hm hb
     have hsz:=HB.out.size
     have HLbt:Aside0 (w3.heap.size≤v47.heap.size):=⟨hsz⟩
     obtain ⟨bt,hq⟩:∃ q,q=v47.heap.size:=⟨_,rfl⟩
     rw [← hq] at hm HLbt ⊢
     have HT:=zF hm
     clear hm hq hsz
     replace HGn:=zF (Kd.R_below HGn.out hb)
     replace HTo:=zF (Kd.R_below HTo.out hb)
     replace HS:=zF (blk_below HS.out hb)
     replace HB:=zF (below_step HB.out hb)
     clear hb
     refine hK.out _ _ HS.out (fun _=>?_)
     try simp only [Act.put,zA,zB,zC]
     clear hK K
     refine wpAnyH_ready (rs:=[5]) (by kernel_rfl) (by simp) ?_
     refine AllReadyH.cons (by rfl) (fun K hK0=>?_) ?_
     ·
      have hK:=zF (fun (a:Act) (w:World) h1=>hK0.out a w h1)
      clear hK0
      refine step_mapM (by rfl) 37 4 rfl Try.underlying37 ?_
      intro v4725 hm hb
      have hsz:=HB.out.size
      have hlt:=HT.out.lt
      have HLbk:Aside0 (w3.heap.size≤v472.heap.size):=⟨hsz⟩
      obtain ⟨bk,hq⟩:∃ q,q=v472.heap.size:=⟨_,rfl⟩
      rw [← hq] at hm HLbk ⊢
      have HNe:Aside0 (bt≠bk):=⟨by omega⟩
      clear hlt
      have HKm:=zF hm
      clear hm hq hsz
      replace HGn:=zF (Kd.R_below HGn.out hb)
      replace HTo:=zF (Kd.R_below HTo.out hb)
      replace HT:=zF (HT.out.kept hb)
      replace HS:=zF (blk_below HS.out hb)
      replace HB:=zF (below_step HB.out hb)
      clear hb
      refine hK.out _ _ HS.out (fun _=>?_)
      try simp only [Act.put,zA,zB,zC]
      clear hK K
      refine tK (v:=.agg #[.slice A0 F.length c0,.slice A1 P.length c1,.slice A2 ord.length c2,.map (some bt),.slice AG P.length cG,.map (some bk),.slice AT P.length cT,.slice none 0 0]) 8 HS.out (fun w9 h9=>?hy) ?_
      case hy=>(skip;go_simp)
      try simp only [Act.put,zA,zB,zC]
      refine only_held 9 rfl (by kernel_rfl) (fun K hK=>?_)
      rw [if_pos (by rfl)]
      go_simp
      have HS2:Aside0 ((v4725.alloc (.cells #[.slice A0 F.length c0,.slice A1 P.length c1,.slice A2 ord.length c2,.map (some bt),.slice AG P.length cG,.map (some bk),.slice AT P.length cT,.slice none 0 0] 78)).heap[gb]? = some (.cells #[.slice A0 F.length c0,.slice A1 P.length c1] 25 (0,0))):=⟨blk_alloc HS.out _⟩
      have HG2:Aside0 (GAt w3 (v4725.alloc (.cells #[.slice A0 F.length c0,.slice A1 P.length c1,.slice A2 ord.length c2,.map (some bt),.slice AG P.length cG,.map (some bk),.slice AT P.length cT,.slice none 0 0] 78)) ⟨v4725.heap.size,bt,bk,A0,F.length,c0,A1,c1,A2,c2,.slice AG P.length cG,.slice AT P.length cT⟩ (startG P ord 0) (.slice none 0 0)):=⟨startAt HB.out HT.out HGn.out HKm.out HTo.out HNe.out HLbt.out HLbk.out HR1w.out hPc HR2w.out hOc⟩
      refine hK.out _ _ HS2.out ?_
      try simp only [Act.put,zA,zB,zC]
      clear hK K HS HT HGn HKm HTo HNe HLbt HLbk
      generalize hq:v4725.alloc (.cells #[.slice A0 F.length c0,.slice A1 P.length c1,.slice A2 ord.length c2,.map (some bt),.slice AG P.length cG,.map (some bk),.slice AT P.length cT,.slice none 0 0] 78)=wf at HS2 HG2 ⊢
      clear hq
      have HS:=HS2
      clear HS2
      refine tK (v:=.pointer (some ⟨v4725.heap.size,0,none⟩)) 10 HS.out (fun w9 h9=>?hy) ?_
      case hy=>(skip;go_simp)
      try simp only [Act.put,zA,zB,zC]
      refine done_held (by kernel_rfl) ?_
      go_wp2
      go_meet
      case rel=>exact ⟨_,rfl,HG2⟩
     exact AllReadyH.nil
    refine AllReadyH.cons (by rfl) (fun K hK0=>?_) ?_
    ·
     have hK:=zF (fun (a:Act) (w:World) h1=>hK0.out a w h1)
     clear hK0
     refine step_mapM (by rfl) 37 4 rfl Try.underlying37 ?_
     intro v475 hm hb
     have hsz:=HB.out.size
     have HLbk:Aside0 (w3.heap.size≤v47.heap.size):=⟨hsz⟩
     obtain ⟨bk,hq⟩:∃ q,q=v47.heap.size:=⟨_,rfl⟩
     rw [← hq] at hm HLbk ⊢
     have HKm:=zF hm
     clear hm hq hsz
     replace HGn:=zF (Kd.R_below HGn.out hb)
     replace HTo:=zF (Kd.R_below HTo.out hb)
     replace HS:=zF (blk_below HS.out hb)
     replace HB:=zF (below_step HB.out hb)
     clear hb
     refine hK.out _ _ HS.out (fun _=>?_)
     try simp only [Act.put,zA,zB,zC]
     clear hK K
     refine wpAnyH_ready (rs:=[2]) (by kernel_rfl) (by simp) ?_
     refine AllReadyH.cons (by rfl) (fun K hK0=>?_) ?_
     ·
      have hK:=zF (fun (a:Act) (w:World) h1=>hK0.out a w h1)
      clear hK0
      refine step_mapM (by rfl) 75 3 rfl Try.underlying75 ?_
      intro v4752 hm hb
      have hsz:=HB.out.size
      have hlt:=HKm.out.lt
      have HLbt:Aside0 (w3.heap.size≤v475.heap.size):=⟨hsz⟩
      obtain ⟨bt,hq⟩:∃ q,q=v475.heap.size:=⟨_,rfl⟩
      rw [← hq] at hm HLbt ⊢
      have HNe:Aside0 (bt≠bk):=⟨by omega⟩
      clear hlt
      have HT:=zF hm
      clear hm hq hsz
      replace HGn:=zF (Kd.R_below HGn.out hb)
      replace HTo:=zF (Kd.R_below HTo.out hb)
      replace HKm:=zF (HKm.out.kept hb)
      replace HS:=zF (blk_below HS.out hb)
      replace HB:=zF (below_step HB.out hb)
      clear hb
      refine hK.out _ _ HS.out (fun _=>?_)
      try simp only [Act.put,zA,zB,zC]
      clear hK K
      refine tK (v:=.agg #[.slice A0 F.length c0,.slice A1 P.length c1,.slice A2 ord.length c2,.map (some bt),.slice AG P.length cG,.map (some bk),.slice AT P.length cT,.slice none 0 0]) 8 HS.out (fun w9 h9=>?hy) ?_
      case hy=>(skip;go_simp)
      try simp only [Act.put,zA,zB,zC]
      refine only_held 9 rfl (by kernel_rfl) (fun K hK=>?_)
      rw [if_pos (by rfl)]
      go_simp
      have HS2:Aside0 ((v4752.alloc (.cells #[.slice A0 F.length c0,.slice A1 P.length c1,.slice A2 ord.length c2,.map (some bt),.slice AG P.length cG,.map (some bk),.slice AT P.length cT,.slice none 0 0] 78)).heap[gb]? = some (.cells #[.slice A0 F.length c0,.slice A1 P.length c1] 25 (0,0))):=⟨blk_alloc HS.out _⟩
      have HG2:Aside0 (GAt w3 (v4752.alloc (.cells #[.slice A0 F.length c0,.slice A1 P.length c1,.slice A2 ord.length c2,.map (some bt),.slice AG P.length cG,.map (some bk),.slice AT P.length cT,.slice none 0 0] 78)) ⟨v4752.heap.size,bt,bk,A0,F.length,c0,A1,c1,A2,c2,.slice AG P.length cG,.slice AT P.length cT⟩ (startG P ord 0) (.slice none 0 0)):=⟨startAt HB.out HT.out HGn.out HKm.out HTo.out HNe.out HLbt.out HLbk.out HR1w.out hPc HR2w.out hOc⟩
      refine hK.out _ _ HS2.out ?_
      try simp only [Act.put,zA,zB,zC]
      clear hK K HS HT HGn HKm HTo HNe HLbt HLbk
      generalize hq:v4752.alloc (.cells #[.slice A0 F.length c0,.slice A1 P.length c1,.slice A2 ord.length c2,.map (some bt),.slice AG P.length cG,.map (some bk),.slice AT P.length cT,.slice none 0 0] 78)=wf at HS2 HG2 ⊢
      clear hq
      have HS:=HS2
      clear HS2
      refine tK (v:=.pointer (some ⟨v4752.heap.size,0,none⟩)) 10 HS.out (fun w9 h9=>?hy) ?_
      case hy=>(skip;go_simp)
      try simp only [Act.put,zA,zB,zC]
      refine done_held (by kernel_rfl) ?_
      go_wp2
      go_meet
      case rel=>exact ⟨_,rfl,HG2⟩
     exact AllReadyH.nil
    exact AllReadyH.nil
   exact AllReadyH.nil
  refine AllReadyH.cons (by rfl) (fun K hK0=>?_) ?_
  ·
   have hK:=zF (fun (a:Act) (w:World) h1=>hK0.out a w h1)
   clear hK0
   refine step_mapM (by rfl) 37 4 rfl Try.underlying37 ?_
   intro v5 hm hb
   have hsz:=HB.out.size
   have HLbk:Aside0 (w3.heap.size≤wx.heap.size):=⟨hsz⟩
   obtain ⟨bk,hq⟩:∃ q,q=wx.heap.size:=⟨_,rfl⟩
   rw [← hq] at hm HLbk ⊢
   have HKm:=zF hm
   clear hm hq hsz
   replace HS:=zF (blk_below HS.out hb)
   replace HB:=zF (below_step HB.out hb)
   clear hb
   refine hK.out _ _ HS.out (fun _=>?_)
   try simp only [Act.put,zA,zB,zC]
   clear hK K
   refine wpAnyH_ready (rs:=[2,4,7]) (by kernel_rfl) (by simp) ?_
   refine AllReadyH.cons (by rfl) (fun K hK0=>?_) ?_
   ·
    have hK:=zF (fun (a:Act) (w:World) h1=>hK0.out a w h1)
    clear hK0
    refine step_mapM (by rfl) 75 3 rfl Try.underlying75 ?_
    intro v52 hm hb
    have hsz:=HB.out.size
    have hlt:=HKm.out.lt
    have HLbt:Aside0 (w3.heap.size≤v5.heap.size):=⟨hsz⟩
    obtain ⟨bt,hq⟩:∃ q,q=v5.heap.size:=⟨_,rfl⟩
    rw [← hq] at hm HLbt ⊢
    have HNe:Aside0 (bt≠bk):=⟨by omega⟩
    clear hlt
    have HT:=zF hm
    clear hm hq hsz
    replace HKm:=zF (HKm.out.kept hb)
    replace HS:=zF (blk_below HS.out hb)
    replace HB:=zF (below_step HB.out hb)
    clear hb
    refine hK.out _ _ HS.out (fun _=>?_)
    try simp only [Act.put,zA,zB,zC]
    clear hK K
    refine wpAnyH_ready (rs:=[4,7]) (by kernel_rfl) (by simp) ?_
    refine AllReadyH.cons (by rfl) (fun K hK0=>?_) ?_
    ·
     have hK:=zF (fun (a:Act) (w:World) h1=>hK0.out a w h1)
     clear hK0
     refine step_mkB (by rfl) rfl (.tmp 29) (.tmp 29) rfl P.length (by rfl) (by rfl) hn w3.heap.size HB.out.size ?_
     intro AG cG v524 hR hb
     have HGn:=zF hR
     clear hR
     replace HKm:=zF (HKm.out.kept hb)
     replace HT:=zF (HT.out.kept hb)
     replace HS:=zF (blk_below HS.out hb)
     replace HB:=zF (below_step HB.out hb)
     clear hb
     refine hK.out _ _ HS.out (fun _=>?_)
     try simp only [Act.put,zA,zB,zC]
     clear hK K
     refine wpAnyH_ready (rs:=[7]) (by kernel_rfl) (by simp) ?_
     refine AllReadyH.cons (by rfl) (fun K hK0=>?_) ?_
     ·
      have hK:=zF (fun (a:Act) (w:World) h1=>hK0.out a w h1)
      clear hK0
      refine step_mkI (by rfl) rfl (.tmp 32) (.tmp 32) rfl P.length (by rfl) (by rfl) hn w3.heap.size HB.out.size ?_
      intro AT cT v5247 hR hb
      have HTo:=zF hR
      clear hR
      replace HKm:=zF (HKm.out.kept hb)
      replace HT:=zF (HT.out.kept hb)
      replace HGn:=zF (Kd.R_below HGn.out hb)
      replace HS:=zF (blk_below HS.out hb)
      replace HB:=zF (below_step HB.out hb)
      clear hb
      refine hK.out _ _ HS.out (fun _=>?_)
      try simp only [Act.put,zA,zB,zC]
      clear hK K
      refine tK (v:=.agg #[.slice A0 F.length c0,.slice A1 P.length c1,.slice A2 ord.length c2,.map (some bt),.slice AG P.length cG,.map (some bk),.slice AT P.length cT,.slice none 0 0]) 8 HS.out (fun w9 h9=>?hy) ?_
      case hy=>(skip;go_simp)
      try simp only [Act.put,zA,zB,zC]
      refine only_held 9 rfl (by kernel_rfl) (fun K hK=>?_)
      rw [if_pos (by rfl)]
      go_simp
      have HS2:Aside0 ((v5247.alloc (.cells #[.slice A0 F.length c0,.slice A1 P.length c1,.slice A2 ord.length c2,.map (some bt),.slice AG P.length cG,.map (some bk),.slice AT P.length cT,.slice none 0 0] 78)).heap[gb]? = some (.cells #[.slice A0 F.length c0,.slice A1 P.length c1] 25 (0,0))):=⟨blk_alloc HS.out _⟩
      have HG2:Aside0 (GAt w3 (v5247.alloc (.cells #[.slice A0 F.length c0,.slice A1 P.length c1,.slice A2 ord.length c2,.map (some bt),.slice AG P.length cG,.map (some bk),.slice AT P.length cT,.slice none 0 0] 78)) ⟨v5247.heap.size,bt,bk,A0,F.length,c0,A1,c1,A2,c2,.slice AG P.length cG,.slice AT P.length cT⟩ (startG P ord 0) (.slice none 0 0)):=⟨startAt HB.out HT.out HGn.out HKm.out HTo.out HNe.out HLbt.out HLbk.out HR1w.out hPc HR2w.out hOc⟩
      refine hK.out _ _ HS2.out ?_
      try simp only [Act.put,zA,zB,zC]
      clear hK K HS HT HGn HKm HTo HNe HLbt HLbk
      generalize hq:v5247.alloc (.cells #[.slice A0 F.length c0,.slice A1 P.length c1,.slice A2 ord.length c2,.map (some bt),.slice AG P.length cG,.map (some bk),.slice AT P.length cT,.slice none 0 0] 78)=wf at HS2 HG2 ⊢
      clear hq
      have HS:=HS2
      clear HS2
      refine tK (v:=.pointer (some ⟨v5247.heap.size,0,none⟩)) 10 HS.out (fun w9 h9=>?hy) ?_
      case hy=>(skip;go_simp)
      try simp only [Act.put,zA,zB,zC]
      refine done_held (by kernel_rfl) ?_
      go_wp2
      go_meet
      case rel=>exact ⟨_,rfl,HG2⟩
     exact AllReadyH.nil
    refine AllReadyH.cons (by rfl) (fun K hK0=>?_) ?_
    ·
     have hK:=zF (fun (a:Act) (w:World) h1=>hK0.out a w h1)
     clear hK0
     refine step_mkI (by rfl) rfl (.tmp 32) (.tmp 32) rfl P.length (by rfl) (by rfl) hn w3.heap.size HB.out.size ?_
     intro AT cT v527 hR hb
     have HTo:=zF hR
     clear hR
     replace HKm:=zF (HKm.out.kept hb)
     replace HT:=zF (HT.out.kept hb)
     replace HS:=zF (blk_below HS.out hb)
     replace HB:=zF (below_step HB.out hb)
     clear hb
     refine hK.out _ _ HS.out (fun _=>?_)
     try simp only [Act.put,zA,zB,zC]
     clear hK K
     refine wpAnyH_ready (rs:=[4]) (by kernel_rfl) (by simp) ?_
     refine AllReadyH.cons (by rfl) (fun K hK0=>?_) ?_
     ·
      have hK:=zF (fun (a:Act) (w:World) h1=>hK0.out a w h1)
      clear hK0
      refine step_mkB (by rfl) rfl (.tmp 29) (.tmp 29) rfl P.length (by rfl) (by rfl) hn w3.heap.size HB.out.size ?_
      intro AG cG v5274 hR hb
      have HGn:=zF hR
      clear hR
      replace HKm:=zF (HKm.out.kept hb)
      replace HT:=zF (HT.out.kept hb)
      replace HTo:=zF (Kd.R_below HTo.out hb)
      replace HS:=zF (blk_below HS.out hb)
      replace HB:=zF (below_step HB.out hb)
      clear hb
      refine hK.out _ _ HS.out (fun _=>?_)
      try simp only [Act.put,zA,zB,zC]
      clear hK K
      refine tK (v:=.agg #[.slice A0 F.length c0,.slice A1 P.length c1,.slice A2 ord.length c2,.map (some bt),.slice AG P.length cG,.map (some bk),.slice AT P.length cT,.slice none 0 0]) 8 HS.out (fun w9 h9=>?hy) ?_
      case hy=>(skip;go_simp)
      try simp only [Act.put,zA,zB,zC]
      refine only_held 9 rfl (by kernel_rfl) (fun K hK=>?_)
      rw [if_pos (by rfl)]
      go_simp
      have HS2:Aside0 ((v5274.alloc (.cells #[.slice A0 F.length c0,.slice A1 P.length c1,.slice A2 ord.length c2,.map (some bt),.slice AG P.length cG,.map (some bk),.slice AT P.length cT,.slice none 0 0] 78)).heap[gb]? = some (.cells #[.slice A0 F.length c0,.slice A1 P.length c1] 25 (0,0))):=⟨blk_alloc HS.out _⟩
      have HG2:Aside0 (GAt w3 (v5274.alloc (.cells #[.slice A0 F.length c0,.slice A1 P.length c1,.slice A2 ord.length c2,.map (some bt),.slice AG P.length cG,.map (some bk),.slice AT P.length cT,.slice none 0 0] 78)) ⟨v5274.heap.size,bt,bk,A0,F.length,c0,A1,c1,A2,c2,.slice AG P.length cG,.slice AT P.length cT⟩ (startG P ord 0) (.slice none 0 0)):=⟨startAt HB.out HT.out HGn.out HKm.out HTo.out HNe.out HLbt.out HLbk.out HR1w.out hPc HR2w.out hOc⟩
      refine hK.out _ _ HS2.out ?_
      try simp only [Act.put,zA,zB,zC]
      clear hK K HS HT HGn HKm HTo HNe HLbt HLbk
      generalize hq:v5274.alloc (.cells #[.slice A0 F.length c0,.slice A1 P.length c1,.slice A2 ord.length c2,.map (some bt),.slice AG P.length cG,.map (some bk),.slice AT P.length cT,.slice none 0 0] 78)=wf at HS2 HG2 ⊢
      clear hq
      have HS:=HS2
      clear HS2
      refine tK (v:=.pointer (some ⟨v5274.heap.size,0,none⟩)) 10 HS.out (fun w9 h9=>?hy) ?_
      case hy=>(skip;go_simp)
      try simp only [Act.put,zA,zB,zC]
      refine done_held (by kernel_rfl) ?_
      go_wp2
      go_meet
      case rel=>exact ⟨_,rfl,HG2⟩
     exact AllReadyH.nil
    exact AllReadyH.nil
   refine AllReadyH.cons (by rfl) (fun K hK0=>?_) ?_
   ·
    have hK:=zF (fun (a:Act) (w:World) h1=>hK0.out a w h1)
    clear hK0
    refine step_mkB (by rfl) rfl (.tmp 29) (.tmp 29) rfl P.length (by rfl) (by rfl) hn w3.heap.size HB.out.size ?_
    intro AG cG v54 hR hb
    have HGn:=zF hR
    clear hR
    replace HKm:=zF (HKm.out.kept hb)
    replace HS:=zF (blk_below HS.out hb)
    replace HB:=zF (below_step HB.out hb)
    clear hb
    refine hK.out _ _ HS.out (fun _=>?_)
    try simp only [Act.put,zA,zB,zC]
    clear hK K
    refine wpAnyH_ready (rs:=[2,7]) (by kernel_rfl) (by simp) ?_
    refine AllReadyH.cons (by rfl) (fun K hK0=>?_) ?_
    ·
     have hK:=zF (fun (a:Act) (w:World) h1=>hK0.out a w h1)
     clear hK0
     refine step_mapM (by rfl) 75 3 rfl Try.underlying75 ?_
     intro v542 hm hb
     have hsz:=HB.out.size
     have hlt:=HKm.out.lt
     have HLbt:Aside0 (w3.heap.size≤v54.heap.size):=⟨hsz⟩
     obtain ⟨bt,hq⟩:∃ q,q=v54.heap.size:=⟨_,rfl⟩
     rw [← hq] at hm HLbt ⊢
     have HNe:Aside0 (bt≠bk):=⟨by omega⟩
     clear hlt
     have HT:=zF hm
     clear hm hq hsz
     replace HKm:=zF (HKm.out.kept hb)
     replace HGn:=zF (Kd.R_below HGn.out hb)
     replace HS:=zF (blk_below HS.out hb)
     replace HB:=zF (below_step HB.out hb)
     clear hb
     refine hK.out _ _ HS.out (fun _=>?_)
     try simp only [Act.put,zA,zB,zC]
     clear hK K
     refine wpAnyH_ready (rs:=[7]) (by kernel_rfl) (by simp) ?_
     refine AllReadyH.cons (by rfl) (fun K hK0=>?_) ?_
     ·
      have hK:=zF (fun (a:Act) (w:World) h1=>hK0.out a w h1)
      clear hK0
      refine step_mkI (by rfl) rfl (.tmp 32) (.tmp 32) rfl P.length (by rfl) (by rfl) hn w3.heap.size HB.out.size ?_
      intro AT cT v5427 hR hb
      have HTo:=zF hR
      clear hR
      replace HKm:=zF (HKm.out.kept hb)
      replace HGn:=zF (Kd.R_below HGn.out hb)
      replace HT:=zF (HT.out.kept hb)
      replace HS:=zF (blk_below HS.out hb)
      replace HB:=zF (below_step HB.out hb)
      clear hb
      refine hK.out _ _ HS.out (fun _=>?_)
      try simp only [Act.put,zA,zB,zC]
      clear hK K
      refine tK (v:=.agg #[.slice A0 F.length c0,.slice A1 P.length c1,.slice A2 ord.length c2,.map (some bt),.slice AG P.length cG,.map (some bk),.slice AT P.length cT,.slice none 0 0]) 8 HS.out (fun w9 h9=>?hy) ?_
      case hy=>(skip;go_simp)
      try simp only [Act.put,zA,zB,zC]
      refine only_held 9 rfl (by kernel_rfl) (fun K hK=>?_)
      rw [if_pos (by rfl)]
      go_simp
      have HS2:Aside0 ((v5427.alloc (.cells #[.slice A0 F.length c0,.slice A1 P.length c1,.slice A2 ord.length c2,.map (some bt),.slice AG P.length cG,.map (some bk),.slice AT P.length cT,.slice none 0 0] 78)).heap[gb]? = some (.cells #[.slice A0 F.length c0,.slice A1 P.length c1] 25 (0,0))):=⟨blk_alloc HS.out _⟩
      have HG2:Aside0 (GAt w3 (v5427.alloc (.cells #[.slice A0 F.length c0,.slice A1 P.length c1,.slice A2 ord.length c2,.map (some bt),.slice AG P.length cG,.map (some bk),.slice AT P.length cT,.slice none 0 0] 78)) ⟨v5427.heap.size,bt,bk,A0,F.length,c0,A1,c1,A2,c2,.slice AG P.length cG,.slice AT P.length cT⟩ (startG P ord 0) (.slice none 0 0)):=⟨startAt HB.out HT.out HGn.out HKm.out HTo.out HNe.out HLbt.out HLbk.out HR1w.out hPc HR2w.out hOc⟩
      refine hK.out _ _ HS2.out ?_
      try simp only [Act.put,zA,zB,zC]
      clear hK K HS HT HGn HKm HTo HNe HLbt HLbk
      generalize hq:v5427.alloc (.cells #[.slice A0 F.length c0,.slice A1 P.length c1,.slice A2 ord.length c2,.map (some bt),.slice AG P.length cG,.map (some bk),.slice AT P.length cT,.slice none 0 0] 78)=wf at HS2 HG2 ⊢
      clear hq
      have HS:=HS2
      clear HS2
      refine tK (v:=.pointer (some ⟨v5427.heap.size,0,none⟩)) 10 HS.out (fun w9 h9=>?hy) ?_
      case hy=>(skip;go_simp)
      try simp only [Act.put,zA,zB,zC]
      refine done_held (by kernel_rfl) ?_
      go_wp2
      go_meet
      case rel=>exact ⟨_,rfl,HG2⟩
     exact AllReadyH.nil
    refine AllReadyH.cons (by rfl) (fun K hK0=>?_) ?_
    ·
     have hK:=zF (fun (a:Act) (w:World) h1=>hK0.out a w h1)
     clear hK0
     refine step_mkI (by rfl) rfl (.tmp 32) (.tmp 32) rfl P.length (by rfl) (by rfl) hn w3.heap.size HB.out.size ?_
     intro AT cT v547 hR hb
     have HTo:=zF hR
     clear hR
     replace HKm:=zF (HKm.out.kept hb)
     replace HGn:=zF (Kd.R_below HGn.out hb)
     replace HS:=zF (blk_below HS.out hb)
     replace HB:=zF (below_step HB.out hb)
     clear hb
     refine hK.out _ _ HS.out (fun _=>?_)
     try simp only [Act.put,zA,zB,zC]
     clear hK K
     refine wpAnyH_ready (rs:=[2]) (by kernel_rfl) (by simp) ?_
     refine AllReadyH.cons (by rfl) (fun K hK0=>?_) ?_
     ·
      have hK:=zF (fun (a:Act) (w:World) h1=>hK0.out a w h1)
      clear hK0
      refine step_mapM (by rfl) 75 3 rfl Try.underlying75 ?_
      intro v5472 hm hb
      have hsz:=HB.out.size
      have hlt:=HKm.out.lt
      have HLbt:Aside0 (w3.heap.size≤v547.heap.size):=⟨hsz⟩
      obtain ⟨bt,hq⟩:∃ q,q=v547.heap.size:=⟨_,rfl⟩
      rw [← hq] at hm HLbt ⊢
      have HNe:Aside0 (bt≠bk):=⟨by omega⟩
      clear hlt
      have HT:=zF hm
      clear hm hq hsz
      replace HKm:=zF (HKm.out.kept hb)
      replace HGn:=zF (Kd.R_below HGn.out hb)
      replace HTo:=zF (Kd.R_below HTo.out hb)
      replace HS:=zF (blk_below HS.out hb)
      replace HB:=zF (below_step HB.out hb)
      clear hb
      refine hK.out _ _ HS.out (fun _=>?_)
      try simp only [Act.put,zA,zB,zC]
      clear hK K
      refine tK (v:=.agg #[.slice A0 F.length c0,.slice A1 P.length c1,.slice A2 ord.length c2,.map (some bt),.slice AG P.length cG,.map (some bk),.slice AT P.length cT,.slice none 0 0]) 8 HS.out (fun w9 h9=>?hy) ?_
      case hy=>(skip;go_simp)
      try simp only [Act.put,zA,zB,zC]
      refine only_held 9 rfl (by kernel_rfl) (fun K hK=>?_)
      rw [if_pos (by rfl)]
      go_simp
      have HS2:Aside0 ((v5472.alloc (.cells #[.slice A0 F.length c0,.slice A1 P.length c1,.slice A2 ord.length c2,.map (some bt),.slice AG P.length cG,.map (some bk),.slice AT P.length cT,.slice none 0 0] 78)).heap[gb]? = some (.cells #[.slice A0 F.length c0,.slice A1 P.length c1] 25 (0,0))):=⟨blk_alloc HS.out _⟩
      have HG2:Aside0 (GAt w3 (v5472.alloc (.cells #[.slice A0 F.length c0,.slice A1 P.length c1,.slice A2 ord.length c2,.map (some bt),.slice AG P.length cG,.map (some bk),.slice AT P.length cT,.slice none 0 0] 78)) ⟨v5472.heap.size,bt,bk,A0,F.length,c0,A1,c1,A2,c2,.slice AG P.length cG,.slice AT P.length cT⟩ (startG P ord 0) (.slice none 0 0)):=⟨startAt HB.out HT.out HGn.out HKm.out HTo.out HNe.out HLbt.out HLbk.out HR1w.out hPc HR2w.out hOc⟩
      refine hK.out _ _ HS2.out ?_
      try simp only [Act.put,zA,zB,zC]
      clear hK K HS HT HGn HKm HTo HNe HLbt HLbk
      generalize hq:v5472.alloc (.cells #[.slice A0 F.length c0,.slice A1 P.length c1,.slice A2 ord.length c2,.map (some bt),.slice AG P.length cG,.map (some bk),.slice AT P.length cT,.slice none 0 0] 78)=wf at HS2 HG2 ⊢
      clear hq
      have HS:=HS2
      clear HS2
      refine tK (v:=.pointer (some ⟨v5472.heap.size,0,none⟩)) 10 HS.out (fun w9 h9=>?hy) ?_
      case hy=>(skip;go_simp)
      try simp only [Act.put,zA,zB,zC]
      refine done_held (by kernel_rfl) ?_
      go_wp2
      go_meet
      case rel=>exact ⟨_,rfl,HG2⟩
     exact AllReadyH.nil
    exact AllReadyH.nil
   refine AllReadyH.cons (by rfl) (fun K hK0=>?_) ?_
   ·
    have hK:=zF (fun (a:Act) (w:World) h1=>hK0.out a w h1)
    clear hK0
    refine step_mkI (by rfl) rfl (.tmp 32) (.tmp 32) rfl P.length (by rfl) (by rfl) hn w3.heap.size HB.out.size ?_
    intro AT cT v57 hR hb
    have HTo:=zF hR
    clear hR
    replace HKm:=zF (HKm.out.kept hb)
    replace HS:=zF (blk_below HS.out hb)
    replace HB:=zF (below_step HB.out hb)
    clear hb
    refine hK.out _ _ HS.out (fun _=>?_)
    try simp only [Act.put,zA,zB,zC]
    clear hK K
    refine wpAnyH_ready (rs:=[2,4]) (by kernel_rfl) (by simp) ?_
    refine AllReadyH.cons (by rfl) (fun K hK0=>?_) ?_
    ·
     have hK:=zF (fun (a:Act) (w:World) h1=>hK0.out a w h1)
     clear hK0
     refine step_mapM (by rfl) 75 3 rfl Try.underlying75 ?_
     intro v572 hm hb
     have hsz:=HB.out.size
     have hlt:=HKm.out.lt
     have HLbt:Aside0 (w3.heap.size≤v57.heap.size):=⟨hsz⟩
     obtain ⟨bt,hq⟩:∃ q,q=v57.heap.size:=⟨_,rfl⟩
     rw [← hq] at hm HLbt ⊢
     have HNe:Aside0 (bt≠bk):=⟨by omega⟩
     clear hlt
     have HT:=zF hm
     clear hm hq hsz
     replace HKm:=zF (HKm.out.kept hb)
     replace HTo:=zF (Kd.R_below HTo.out hb)
     replace HS:=zF (blk_below HS.out hb)
     replace HB:=zF (below_step HB.out hb)
     clear hb
     refine hK.out _ _ HS.out (fun _=>?_)
     try simp only [Act.put,zA,zB,zC]
     clear hK K
     refine wpAnyH_ready (rs:=[4]) (by kernel_rfl) (by simp) ?_
     refine AllReadyH.cons (by rfl) (fun K hK0=>?_) ?_
     ·
      have hK:=zF (fun (a:Act) (w:World) h1=>hK0.out a w h1)
      clear hK0
      refine step_mkB (by rfl) rfl (.tmp 29) (.tmp 29) rfl P.length (by rfl) (by rfl) hn w3.heap.size HB.out.size ?_
      intro AG cG v5724 hR hb
      have HGn:=zF hR
      clear hR
      replace HKm:=zF (HKm.out.kept hb)
      replace HTo:=zF (Kd.R_below HTo.out hb)
      replace HT:=zF (HT.out.kept hb)
      replace HS:=zF (blk_below HS.out hb)
      replace HB:=zF (below_step HB.out hb)
      clear hb
      refine hK.out _ _ HS.out (fun _=>?_)
      try simp only [Act.put,zA,zB,zC]
      clear hK K
      refine tK (v:=.agg #[.slice A0 F.length c0,.slice A1 P.length c1,.slice A2 ord.length c2,.map (some bt),.slice AG P.length cG,.map (some bk),.slice AT P.length cT,.slice none 0 0]) 8 HS.out (fun w9 h9=>?hy) ?_
      case hy=>(skip;go_simp)
      try simp only [Act.put,zA,zB,zC]
      refine only_held 9 rfl (by kernel_rfl) (fun K hK=>?_)
      rw [if_pos (by rfl)]
      go_simp
      have HS2:Aside0 ((v5724.alloc (.cells #[.slice A0 F.length c0,.slice A1 P.length c1,.slice A2 ord.length c2,.map (some bt),.slice AG P.length cG,.map (some bk),.slice AT P.length cT,.slice none 0 0] 78)).heap[gb]? = some (.cells #[.slice A0 F.length c0,.slice A1 P.length c1] 25 (0,0))):=⟨blk_alloc HS.out _⟩
      have HG2:Aside0 (GAt w3 (v5724.alloc (.cells #[.slice A0 F.length c0,.slice A1 P.length c1,.slice A2 ord.length c2,.map (some bt),.slice AG P.length cG,.map (some bk),.slice AT P.length cT,.slice none 0 0] 78)) ⟨v5724.heap.size,bt,bk,A0,F.length,c0,A1,c1,A2,c2,.slice AG P.length cG,.slice AT P.length cT⟩ (startG P ord 0) (.slice none 0 0)):=⟨startAt HB.out HT.out HGn.out HKm.out HTo.out HNe.out HLbt.out HLbk.out HR1w.out hPc HR2w.out hOc⟩
      refine hK.out _ _ HS2.out ?_
      try simp only [Act.put,zA,zB,zC]
      clear hK K HS HT HGn HKm HTo HNe HLbt HLbk
      generalize hq:v5724.alloc (.cells #[.slice A0 F.length c0,.slice A1 P.length c1,.slice A2 ord.length c2,.map (some bt),.slice AG P.length cG,.map (some bk),.slice AT P.length cT,.slice none 0 0] 78)=wf at HS2 HG2 ⊢
      clear hq
      have HS:=HS2
      clear HS2
      refine tK (v:=.pointer (some ⟨v5724.heap.size,0,none⟩)) 10 HS.out (fun w9 h9=>?hy) ?_
      case hy=>(skip;go_simp)
      try simp only [Act.put,zA,zB,zC]
      refine done_held (by kernel_rfl) ?_
      go_wp2
      go_meet
      case rel=>exact ⟨_,rfl,HG2⟩
     exact AllReadyH.nil
    refine AllReadyH.cons (by rfl) (fun K hK0=>?_) ?_
    ·
     have hK:=zF (fun (a:Act) (w:World) h1=>hK0.out a w h1)
     clear hK0
     refine step_mkB (by rfl) rfl (.tmp 29) (.tmp 29) rfl P.length (by rfl) (by rfl) hn w3.heap.size HB.out.size ?_
     intro AG cG v574 hR hb
     have HGn:=zF hR
     clear hR
     replace HKm:=zF (HKm.out.kept hb)
     replace HTo:=zF (Kd.R_below HTo.out hb)
     replace HS:=zF (blk_below HS.out hb)
     replace HB:=zF (below_step HB.out hb)
     clear hb
     refine hK.out _ _ HS.out (fun _=>?_)
     try simp only [Act.put,zA,zB,zC]
     clear hK K
     refine wpAnyH_ready (rs:=[2]) (by kernel_rfl) (by simp) ?_
     refine AllReadyH.cons (by rfl) (fun K hK0=>?_) ?_
     ·
      have hK:=zF (fun (a:Act) (w:World) h1=>hK0.out a w h1)
      clear hK0
      refine step_mapM (by rfl) 75 3 rfl Try.underlying75 ?_
      intro v5742 hm hb
      have hsz:=HB.out.size
      have hlt:=HKm.out.lt
      have HLbt:Aside0 (w3.heap.size≤v574.heap.size):=⟨hsz⟩
      obtain ⟨bt,hq⟩:∃ q,q=v574.heap.size:=⟨_,rfl⟩
      rw [← hq] at hm HLbt ⊢
      have HNe:Aside0 (bt≠bk):=⟨by omega⟩
      clear hlt
      have HT:=zF hm
      clear hm hq hsz
      replace HKm:=zF (HKm.out.kept hb)
      replace HTo:=zF (Kd.R_below HTo.out hb)
      replace HGn:=zF (Kd.R_below HGn.out hb)
      replace HS:=zF (blk_below HS.out hb)
      replace HB:=zF (below_step HB.out hb)
      clear hb
      refine hK.out _ _ HS.out (fun _=>?_)
      try simp only [Act.put,zA,zB,zC]
      clear hK K
      refine tK (v:=.agg #[.slice A0 F.length c0,.slice A1 P.length c1,.slice A2 ord.length c2,.map (some bt),.slice AG P.length cG,.map (some bk),.slice AT P.length cT,.slice none 0 0]) 8 HS.out (fun w9 h9=>?hy) ?_
      case hy=>(skip;go_simp)
      try simp only [Act.put,zA,zB,zC]
      refine only_held 9 rfl (by kernel_rfl) (fun K hK=>?_)
      rw [if_pos (by rfl)]
      go_simp
      have HS2:Aside0 ((v5742.alloc (.cells #[.slice A0 F.length c0,.slice A1 P.length c1,.slice A2 ord.length c2,.map (some bt),.slice AG P.length cG,.map (some bk),.slice AT P.length cT,.slice none 0 0] 78)).heap[gb]? = some (.cells #[.slice A0 F.length c0,.slice A1 P.length c1] 25 (0,0))):=⟨blk_alloc HS.out _⟩
      have HG2:Aside0 (GAt w3 (v5742.alloc (.cells #[.slice A0 F.length c0,.slice A1 P.length c1,.slice A2 ord.length c2,.map (some bt),.slice AG P.length cG,.map (some bk),.slice AT P.length cT,.slice none 0 0] 78)) ⟨v5742.heap.size,bt,bk,A0,F.length,c0,A1,c1,A2,c2,.slice AG P.length cG,.slice AT P.length cT⟩ (startG P ord 0) (.slice none 0 0)):=⟨startAt HB.out HT.out HGn.out HKm.out HTo.out HNe.out HLbt.out HLbk.out HR1w.out hPc HR2w.out hOc⟩
      refine hK.out _ _ HS2.out ?_
      try simp only [Act.put,zA,zB,zC]
      clear hK K HS HT HGn HKm HTo HNe HLbt HLbk
      generalize hq:v5742.alloc (.cells #[.slice A0 F.length c0,.slice A1 P.length c1,.slice A2 ord.length c2,.map (some bt),.slice AG P.length cG,.map (some bk),.slice AT P.length cT,.slice none 0 0] 78)=wf at HS2 HG2 ⊢
      clear hq
      have HS:=HS2
      clear HS2
      refine tK (v:=.pointer (some ⟨v5742.heap.size,0,none⟩)) 10 HS.out (fun w9 h9=>?hy) ?_
      case hy=>(skip;go_simp)
      try simp only [Act.put,zA,zB,zC]
      refine done_held (by kernel_rfl) ?_
      go_wp2
      go_meet
      case rel=>exact ⟨_,rfl,HG2⟩
     exact AllReadyH.nil
    exact AllReadyH.nil
   exact AllReadyH.nil
  refine AllReadyH.cons (by rfl) (fun K hK0=>?_) ?_
  ·
   have hK:=zF (fun (a:Act) (w:World) h1=>hK0.out a w h1)
   clear hK0
   refine step_mkI (by rfl) rfl (.tmp 32) (.tmp 32) rfl P.length (by rfl) (by rfl) hn w3.heap.size HB.out.size ?_
   intro AT cT v7 hR hb
   have HTo:=zF hR
   clear hR
   replace HS:=zF (blk_below HS.out hb)
   replace HB:=zF (below_step HB.out hb)
   clear hb
   refine hK.out _ _ HS.out (fun _=>?_)
   try simp only [Act.put,zA,zB,zC]
   clear hK K
   refine wpAnyH_ready (rs:=[2,4,5]) (by kernel_rfl) (by simp) ?_
   refine AllReadyH.cons (by rfl) (fun K hK0=>?_) ?_
   ·
    have hK:=zF (fun (a:Act) (w:World) h1=>hK0.out a w h1)
    clear hK0
    refine step_mapM (by rfl) 75 3 rfl Try.underlying75 ?_
    intro v72 hm hb
    have hsz:=HB.out.size
    have HLbt:Aside0 (w3.heap.size≤v7.heap.size):=⟨hsz⟩
    obtain ⟨bt,hq⟩:∃ q,q=v7.heap.size:=⟨_,rfl⟩
    rw [← hq] at hm HLbt ⊢
    have HT:=zF hm
    clear hm hq hsz
    replace HTo:=zF (Kd.R_below HTo.out hb)
    replace HS:=zF (blk_below HS.out hb)
    replace HB:=zF (below_step HB.out hb)
    clear hb
    refine hK.out _ _ HS.out (fun _=>?_)
    try simp only [Act.put,zA,zB,zC]
    clear hK K
    refine wpAnyH_ready (rs:=[4,5]) (by kernel_rfl) (by simp) ?_
    refine AllReadyH.cons (by rfl) (fun K hK0=>?_) ?_
    ·
     have hK:=zF (fun (a:Act) (w:World) h1=>hK0.out a w h1)
     clear hK0
     refine step_mkB (by rfl) rfl (.tmp 29) (.tmp 29) rfl P.length (by rfl) (by rfl) hn w3.heap.size HB.out.size ?_
     intro AG cG v724 hR hb
     have HGn:=zF hR
     clear hR
     replace HTo:=zF (Kd.R_below HTo.out hb)
     replace HT:=zF (HT.out.kept hb)
     replace HS:=zF (blk_below HS.out hb)
     replace HB:=zF (below_step HB.out hb)
     clear hb
     refine hK.out _ _ HS.out (fun _=>?_)
     try simp only [Act.put,zA,zB,zC]
     clear hK K
     refine wpAnyH_ready (rs:=[5]) (by kernel_rfl) (by simp) ?_
     refine AllReadyH.cons (by rfl) (fun K hK0=>?_) ?_
     ·
      have hK:=zF (fun (a:Act) (w:World) h1=>hK0.out a w h1)
      clear hK0
      refine step_mapM (by rfl) 37 4 rfl Try.underlying37 ?_
      intro v7245 hm hb
      have hsz:=HB.out.size
      have hlt:=HT.out.lt
      have HLbk:Aside0 (w3.heap.size≤v724.heap.size):=⟨hsz⟩
      obtain ⟨bk,hq⟩:∃ q,q=v724.heap.size:=⟨_,rfl⟩
      rw [← hq] at hm HLbk ⊢
      have HNe:Aside0 (bt≠bk):=⟨by omega⟩
      clear hlt
      have HKm:=zF hm
      clear hm hq hsz
      replace HTo:=zF (Kd.R_below HTo.out hb)
      replace HT:=zF (HT.out.kept hb)
      replace HGn:=zF (Kd.R_below HGn.out hb)
      replace HS:=zF (blk_below HS.out hb)
      replace HB:=zF (below_step HB.out hb)
      clear hb
      refine hK.out _ _ HS.out (fun _=>?_)
      try simp only [Act.put,zA,zB,zC]
      clear hK K
      refine tK (v:=.agg #[.slice A0 F.length c0,.slice A1 P.length c1,.slice A2 ord.length c2,.map (some bt),.slice AG P.length cG,.map (some bk),.slice AT P.length cT,.slice none 0 0]) 8 HS.out (fun w9 h9=>?hy) ?_
      case hy=>(skip;go_simp)
      try simp only [Act.put,zA,zB,zC]
      refine only_held 9 rfl (by kernel_rfl) (fun K hK=>?_)
      rw [if_pos (by rfl)]
      go_simp
      have HS2:Aside0 ((v7245.alloc (.cells #[.slice A0 F.length c0,.slice A1 P.length c1,.slice A2 ord.length c2,.map (some bt),.slice AG P.length cG,.map (some bk),.slice AT P.length cT,.slice none 0 0] 78)).heap[gb]? = some (.cells #[.slice A0 F.length c0,.slice A1 P.length c1] 25 (0,0))):=⟨blk_alloc HS.out _⟩
      have HG2:Aside0 (GAt w3 (v7245.alloc (.cells #[.slice A0 F.length c0,.slice A1 P.length c1,.slice A2 ord.length c2,.map (some bt),.slice AG P.length cG,.map (some bk),.slice AT P.length cT,.slice none 0 0] 78)) ⟨v7245.heap.size,bt,bk,A0,F.length,c0,A1,c1,A2,c2,.slice AG P.length cG,.slice AT P.length cT⟩ (startG P ord 0) (.slice none 0 0)):=⟨startAt HB.out HT.out HGn.out HKm.out HTo.out HNe.out HLbt.out HLbk.out HR1w.out hPc HR2w.out hOc⟩
      refine hK.out _ _ HS2.out ?_
      try simp only [Act.put,zA,zB,zC]
      clear hK K HS HT HGn HKm HTo HNe HLbt HLbk
      generalize hq:v7245.alloc (.cells #[.slice A0 F.length c0,.slice A1 P.length c1,.slice A2 ord.length c2,.map (some bt),.slice AG P.length cG,.map (some bk),.slice AT P.length cT,.slice none 0 0] 78)=wf at HS2 HG2 ⊢
      clear hq
      have HS:=HS2
      clear HS2
      refine tK (v:=.pointer (some ⟨v7245.heap.size,0,none⟩)) 10 HS.out (fun w9 h9=>?hy) ?_
      case hy=>(skip;go_simp)
      try simp only [Act.put,zA,zB,zC]
      refine done_held (by kernel_rfl) ?_
      go_wp2
      go_meet
      case rel=>exact ⟨_,rfl,HG2⟩
     exact AllReadyH.nil
    refine AllReadyH.cons (by rfl) (fun K hK0=>?_) ?_
    ·
     have hK:=zF (fun (a:Act) (w:World) h1=>hK0.out a w h1)
     clear hK0
     refine step_mapM (by rfl) 37 4 rfl Try.underlying37 ?_
     intro v725 hm hb
     have hsz:=HB.out.size
     have hlt:=HT.out.lt
     have HLbk:Aside0 (w3.heap.size≤v72.heap.size):=⟨hsz⟩
     obtain ⟨bk,hq⟩:∃ q,q=v72.heap.size:=⟨_,rfl⟩
     rw [← hq] at hm HLbk ⊢
     have HNe:Aside0 (bt≠bk):=⟨by omega⟩
     clear hlt
     have HKm:=zF hm
     clear hm hq hsz
     replace HTo:=zF (Kd.R_below HTo.out hb)
     replace HT:=zF (HT.out.kept hb)
     replace HS:=zF (blk_below HS.out hb)
     replace HB:=zF (below_step HB.out hb)
     clear hb
     refine hK.out _ _ HS.out (fun _=>?_)
     try simp only [Act.put,zA,zB,zC]
     clear hK K
     refine wpAnyH_ready (rs:=[4]) (by kernel_rfl) (by simp) ?_
     refine AllReadyH.cons (by rfl) (fun K hK0=>?_) ?_
     ·
      have hK:=zF (fun (a:Act) (w:World) h1=>hK0.out a w h1)
      clear hK0
      refine step_mkB (by rfl) rfl (.tmp 29) (.tmp 29) rfl P.length (by rfl) (by rfl) hn w3.heap.size HB.out.size ?_
      intro AG cG v7254 hR hb
      have HGn:=zF hR
      clear hR
      replace HTo:=zF (Kd.R_below HTo.out hb)
      replace HT:=zF (HT.out.kept hb)
      replace HKm:=zF (HKm.out.kept hb)
      replace HS:=zF (blk_below HS.out hb)
      replace HB:=zF (below_step HB.out hb)
      clear hb
      refine hK.out _ _ HS.out (fun _=>?_)
      try simp only [Act.put,zA,zB,zC]
      clear hK K
      refine tK (v:=.agg #[.slice A0 F.length c0,.slice A1 P.length c1,.slice A2 ord.length c2,.map (some bt),.slice AG P.length cG,.map (some bk),.slice AT P.length cT,.slice none 0 0]) 8 HS.out (fun w9 h9=>?hy) ?_
      case hy=>(skip;go_simp)
      try simp only [Act.put,zA,zB,zC]
      refine only_held 9 rfl (by kernel_rfl) (fun K hK=>?_)
      rw [if_pos (by rfl)]
      go_simp
      have HS2:Aside0 ((v7254.alloc (.cells #[.slice A0 F.length c0,.slice A1 P.length c1,.slice A2 ord.length c2,.map (some bt),.slice AG P.length cG,.map (some bk),.slice AT P.length cT,.slice none 0 0] 78)).heap[gb]? = some (.cells #[.slice A0 F.length c0,.slice A1 P.length c1] 25 (0,0))):=⟨blk_alloc HS.out _⟩
      have HG2:Aside0 (GAt w3 (v7254.alloc (.cells #[.slice A0 F.length c0,.slice A1 P.length c1,.slice A2 ord.length c2,.map (some bt),.slice AG P.length cG,.map (some bk),.slice AT P.length cT,.slice none 0 0] 78)) ⟨v7254.heap.size,bt,bk,A0,F.length,c0,A1,c1,A2,c2,.slice AG P.length cG,.slice AT P.length cT⟩ (startG P ord 0) (.slice none 0 0)):=⟨startAt HB.out HT.out HGn.out HKm.out HTo.out HNe.out HLbt.out HLbk.out HR1w.out hPc HR2w.out hOc⟩
      refine hK.out _ _ HS2.out ?_
      try simp only [Act.put,zA,zB,zC]
      clear hK K HS HT HGn HKm HTo HNe HLbt HLbk
      generalize hq:v7254.alloc (.cells #[.slice A0 F.length c0,.slice A1 P.length c1,.slice A2 ord.length c2,.map (some bt),.slice AG P.length cG,.map (some bk),.slice AT P.length cT,.slice none 0 0] 78)=wf at HS2 HG2 ⊢
      clear hq
      have HS:=HS2
      clear HS2
      refine tK (v:=.pointer (some ⟨v7254.heap.size,0,none⟩)) 10 HS.out (fun w9 h9=>?hy) ?_
      case hy=>(skip;go_simp)
      try simp only [Act.put,zA,zB,zC]
      refine done_held (by kernel_rfl) ?_
      go_wp2
      go_meet
      case rel=>exact ⟨_,rfl,HG2⟩
     exact AllReadyH.nil
    exact AllReadyH.nil
   refine AllReadyH.cons (by rfl) (fun K hK0=>?_) ?_
   ·
    have hK:=zF (fun (a:Act) (w:World) h1=>hK0.out a w h1)
    clear hK0
    refine step_mkB (by rfl) rfl (.tmp 29) (.tmp 29) rfl P.length (by rfl) (by rfl) hn w3.heap.size HB.out.size ?_
    intro AG cG v74 hR hb
    have HGn:=zF hR
    clear hR
    replace HTo:=zF (Kd.R_below HTo.out hb)
    replace HS:=zF (blk_below HS.out hb)
    replace HB:=zF (below_step HB.out hb)
    clear hb
    refine hK.out _ _ HS.out (fun _=>?_)
    try simp only [Act.put,zA,zB,zC]
    clear hK K
    refine wpAnyH_ready (rs:=[2,5]) (by kernel_rfl) (by simp) ?_
    refine AllReadyH.cons (by rfl) (fun K hK0=>?_) ?_
    ·
     have hK:=zF (fun (a:Act) (w:World) h1=>hK0.out a w h1)
     clear hK0
     refine step_mapM (by rfl) 75 3 rfl Try.underlying75 ?_
     intro v742 hm hb
     have hsz:=HB.out.size
     have HLbt:Aside0 (w3.heap.size≤v74.heap.size):=⟨hsz⟩
     obtain ⟨bt,hq⟩:∃ q,q=v74.heap.size:=⟨_,rfl⟩
     rw [← hq] at hm HLbt ⊢
     have HT:=zF hm
     clear hm hq hsz
     replace HTo:=zF (Kd.R_below HTo.out hb)
     replace HGn:=zF (Kd.R_below HGn.out hb)
     replace HS:=zF (blk_below HS.out hb)
     replace HB:=zF (below_step HB.out hb)
     clear hb
     refine hK.out _ _ HS.out (fun _=>?_)
     try simp only [Act.put,zA,zB,zC]
     clear hK K
     refine wpAnyH_ready (rs:=[5]) (by kernel_rfl) (by simp) ?_
     refine AllReadyH.cons (by rfl) (fun K hK0=>?_) ?_
     ·
      have hK:=zF (fun (a:Act) (w:World) h1=>hK0.out a w h1)
      clear hK0
      refine step_mapM (by rfl) 37 4 rfl Try.underlying37 ?_
      intro v7425 hm hb
      have hsz:=HB.out.size
      have hlt:=HT.out.lt
      have HLbk:Aside0 (w3.heap.size≤v742.heap.size):=⟨hsz⟩
      obtain ⟨bk,hq⟩:∃ q,q=v742.heap.size:=⟨_,rfl⟩
      rw [← hq] at hm HLbk ⊢
      have HNe:Aside0 (bt≠bk):=⟨by omega⟩
      clear hlt
      have HKm:=zF hm
      clear hm hq hsz
      replace HTo:=zF (Kd.R_below HTo.out hb)
      replace HGn:=zF (Kd.R_below HGn.out hb)
      replace HT:=zF (HT.out.kept hb)
      replace HS:=zF (blk_below HS.out hb)
      replace HB:=zF (below_step HB.out hb)
      clear hb
      refine hK.out _ _ HS.out (fun _=>?_)
      try simp only [Act.put,zA,zB,zC]
      clear hK K
      refine tK (v:=.agg #[.slice A0 F.length c0,.slice A1 P.length c1,.slice A2 ord.length c2,.map (some bt),.slice AG P.length cG,.map (some bk),.slice AT P.length cT,.slice none 0 0]) 8 HS.out (fun w9 h9=>?hy) ?_
      case hy=>(skip;go_simp)
      try simp only [Act.put,zA,zB,zC]
      refine only_held 9 rfl (by kernel_rfl) (fun K hK=>?_)
      rw [if_pos (by rfl)]
      go_simp
      have HS2:Aside0 ((v7425.alloc (.cells #[.slice A0 F.length c0,.slice A1 P.length c1,.slice A2 ord.length c2,.map (some bt),.slice AG P.length cG,.map (some bk),.slice AT P.length cT,.slice none 0 0] 78)).heap[gb]? = some (.cells #[.slice A0 F.length c0,.slice A1 P.length c1] 25 (0,0))):=⟨blk_alloc HS.out _⟩
      have HG2:Aside0 (GAt w3 (v7425.alloc (.cells #[.slice A0 F.length c0,.slice A1 P.length c1,.slice A2 ord.length c2,.map (some bt),.slice AG P.length cG,.map (some bk),.slice AT P.length cT,.slice none 0 0] 78)) ⟨v7425.heap.size,bt,bk,A0,F.length,c0,A1,c1,A2,c2,.slice AG P.length cG,.slice AT P.length cT⟩ (startG P ord 0) (.slice none 0 0)):=⟨startAt HB.out HT.out HGn.out HKm.out HTo.out HNe.out HLbt.out HLbk.out HR1w.out hPc HR2w.out hOc⟩
      refine hK.out _ _ HS2.out ?_
      try simp only [Act.put,zA,zB,zC]
      clear hK K HS HT HGn HKm HTo HNe HLbt HLbk
      generalize hq:v7425.alloc (.cells #[.slice A0 F.length c0,.slice A1 P.length c1,.slice A2 ord.length c2,.map (some bt),.slice AG P.length cG,.map (some bk),.slice AT P.length cT,.slice none 0 0] 78)=wf at HS2 HG2 ⊢
      clear hq
      have HS:=HS2
      clear HS2
      refine tK (v:=.pointer (some ⟨v7425.heap.size,0,none⟩)) 10 HS.out (fun w9 h9=>?hy) ?_
      case hy=>(skip;go_simp)
      try simp only [Act.put,zA,zB,zC]
      refine done_held (by kernel_rfl) ?_
      go_wp2
      go_meet
      case rel=>exact ⟨_,rfl,HG2⟩
     exact AllReadyH.nil
    refine AllReadyH.cons (by rfl) (fun K hK0=>?_) ?_
    ·
     have hK:=zF (fun (a:Act) (w:World) h1=>hK0.out a w h1)
     clear hK0
     refine step_mapM (by rfl) 37 4 rfl Try.underlying37 ?_
     intro v745 hm hb
     have hsz:=HB.out.size
     have HLbk:Aside0 (w3.heap.size≤v74.heap.size):=⟨hsz⟩
     obtain ⟨bk,hq⟩:∃ q,q=v74.heap.size:=⟨_,rfl⟩
     rw [← hq] at hm HLbk ⊢
     have HKm:=zF hm
     clear hm hq hsz
     replace HTo:=zF (Kd.R_below HTo.out hb)
     replace HGn:=zF (Kd.R_below HGn.out hb)
     replace HS:=zF (blk_below HS.out hb)
     replace HB:=zF (below_step HB.out hb)
     clear hb
     refine hK.out _ _ HS.out (fun _=>?_)
     try simp only [Act.put,zA,zB,zC]
     clear hK K
     refine wpAnyH_ready (rs:=[2]) (by kernel_rfl) (by simp) ?_
     refine AllReadyH.cons (by rfl) (fun K hK0=>?_) ?_
     ·
      have hK:=zF (fun (a:Act) (w:World) h1=>hK0.out a w h1)
      clear hK0
      refine step_mapM (by rfl) 75 3 rfl Try.underlying75 ?_
      intro v7452 hm hb
      have hsz:=HB.out.size
      have hlt:=HKm.out.lt
      have HLbt:Aside0 (w3.heap.size≤v745.heap.size):=⟨hsz⟩
      obtain ⟨bt,hq⟩:∃ q,q=v745.heap.size:=⟨_,rfl⟩
      rw [← hq] at hm HLbt ⊢
      have HNe:Aside0 (bt≠bk):=⟨by omega⟩
      clear hlt
      have HT:=zF hm
      clear hm hq hsz
      replace HTo:=zF (Kd.R_below HTo.out hb)
      replace HGn:=zF (Kd.R_below HGn.out hb)
      replace HKm:=zF (HKm.out.kept hb)
      replace HS:=zF (blk_below HS.out hb)
      replace HB:=zF (below_step HB.out hb)
      clear hb
      refine hK.out _ _ HS.out (fun _=>?_)
      try simp only [Act.put,zA,zB,zC]
      clear hK K
      refine tK (v:=.agg #[.slice A0 F.length c0,.slice A1 P.length c1,.slice A2 ord.length c2,.map (some bt),.slice AG P.length cG,.map (some bk),.slice AT P.length cT,.slice none 0 0]) 8 HS.out (fun w9 h9=>?hy) ?_
      case hy=>(skip;go_simp)
      try simp only [Act.put,zA,zB,zC]
      refine only_held 9 rfl (by kernel_rfl) (fun K hK=>?_)
      rw [if_pos (by rfl)]
      go_simp
      have HS2:Aside0 ((v7452.alloc (.cells #[.slice A0 F.length c0,.slice A1 P.length c1,.slice A2 ord.length c2,.map (some bt),.slice AG P.length cG,.map (some bk),.slice AT P.length cT,.slice none 0 0] 78)).heap[gb]? = some (.cells #[.slice A0 F.length c0,.slice A1 P.length c1] 25 (0,0))):=⟨blk_alloc HS.out _⟩
      have HG2:Aside0 (GAt w3 (v7452.alloc (.cells #[.slice A0 F.length c0,.slice A1 P.length c1,.slice A2 ord.length c2,.map (some bt),.slice AG P.length cG,.map (some bk),.slice AT P.length cT,.slice none 0 0] 78)) ⟨v7452.heap.size,bt,bk,A0,F.length,c0,A1,c1,A2,c2,.slice AG P.length cG,.slice AT P.length cT⟩ (startG P ord 0) (.slice none 0 0)):=⟨startAt HB.out HT.out HGn.out HKm.out HTo.out HNe.out HLbt.out HLbk.out HR1w.out hPc HR2w.out hOc⟩
      refine hK.out _ _ HS2.out ?_
      try simp only [Act.put,zA,zB,zC]
      clear hK K HS HT HGn HKm HTo HNe HLbt HLbk
      generalize hq:v7452.alloc (.cells #[.slice A0 F.length c0,.slice A1 P.length c1,.slice A2 ord.length c2,.map (some bt),.slice AG P.length cG,.map (some bk),.slice AT P.length cT,.slice none 0 0] 78)=wf at HS2 HG2 ⊢
      clear hq
      have HS:=HS2
      clear HS2
      refine tK (v:=.pointer (some ⟨v7452.heap.size,0,none⟩)) 10 HS.out (fun w9 h9=>?hy) ?_
      case hy=>(skip;go_simp)
      try simp only [Act.put,zA,zB,zC]
      refine done_held (by kernel_rfl) ?_
      go_wp2
      go_meet
      case rel=>exact ⟨_,rfl,HG2⟩
     exact AllReadyH.nil
    exact AllReadyH.nil
   refine AllReadyH.cons (by rfl) (fun K hK0=>?_) ?_
   ·
    have hK:=zF (fun (a:Act) (w:World) h1=>hK0.out a w h1)
    clear hK0
    refine step_mapM (by rfl) 37 4 rfl Try.underlying37 ?_
    intro v75 hm hb
    have hsz:=HB.out.size
    have HLbk:Aside0 (w3.heap.size≤v7.heap.size):=⟨hsz⟩
    obtain ⟨bk,hq⟩:∃ q,q=v7.heap.size:=⟨_,rfl⟩
    rw [← hq] at hm HLbk ⊢
    have HKm:=zF hm
    clear hm hq hsz
    replace HTo:=zF (Kd.R_below HTo.out hb)
    replace HS:=zF (blk_below HS.out hb)
    replace HB:=zF (below_step HB.out hb)
    clear hb
    refine hK.out _ _ HS.out (fun _=>?_)
    try simp only [Act.put,zA,zB,zC]
    clear hK K
    refine wpAnyH_ready (rs:=[2,4]) (by kernel_rfl) (by simp) ?_
    refine AllReadyH.cons (by rfl) (fun K hK0=>?_) ?_
    ·
     have hK:=zF (fun (a:Act) (w:World) h1=>hK0.out a w h1)
     clear hK0
     refine step_mapM (by rfl) 75 3 rfl Try.underlying75 ?_
     intro v752 hm hb
     have hsz:=HB.out.size
     have hlt:=HKm.out.lt
     have HLbt:Aside0 (w3.heap.size≤v75.heap.size):=⟨hsz⟩
     obtain ⟨bt,hq⟩:∃ q,q=v75.heap.size:=⟨_,rfl⟩
     rw [← hq] at hm HLbt ⊢
     have HNe:Aside0 (bt≠bk):=⟨by omega⟩
     clear hlt
     have HT:=zF hm
     clear hm hq hsz
     replace HTo:=zF (Kd.R_below HTo.out hb)
     replace HKm:=zF (HKm.out.kept hb)
     replace HS:=zF (blk_below HS.out hb)
     replace HB:=zF (below_step HB.out hb)
     clear hb
     refine hK.out _ _ HS.out (fun _=>?_)
     try simp only [Act.put,zA,zB,zC]
     clear hK K
     refine wpAnyH_ready (rs:=[4]) (by kernel_rfl) (by simp) ?_
     refine AllReadyH.cons (by rfl) (fun K hK0=>?_) ?_
     ·
      have hK:=zF (fun (a:Act) (w:World) h1=>hK0.out a w h1)
      clear hK0
      refine step_mkB (by rfl) rfl (.tmp 29) (.tmp 29) rfl P.length (by rfl) (by rfl) hn w3.heap.size HB.out.size ?_
      intro AG cG v7524 hR hb
      have HGn:=zF hR
      clear hR
      replace HTo:=zF (Kd.R_below HTo.out hb)
      replace HKm:=zF (HKm.out.kept hb)
      replace HT:=zF (HT.out.kept hb)
      replace HS:=zF (blk_below HS.out hb)
      replace HB:=zF (below_step HB.out hb)
      clear hb
      refine hK.out _ _ HS.out (fun _=>?_)
      try simp only [Act.put,zA,zB,zC]
      clear hK K
      refine tK (v:=.agg #[.slice A0 F.length c0,.slice A1 P.length c1,.slice A2 ord.length c2,.map (some bt),.slice AG P.length cG,.map (some bk),.slice AT P.length cT,.slice none 0 0]) 8 HS.out (fun w9 h9=>?hy) ?_
      case hy=>(skip;go_simp)
      try simp only [Act.put,zA,zB,zC]
      refine only_held 9 rfl (by kernel_rfl) (fun K hK=>?_)
      rw [if_pos (by rfl)]
      go_simp
      have HS2:Aside0 ((v7524.alloc (.cells #[.slice A0 F.length c0,.slice A1 P.length c1,.slice A2 ord.length c2,.map (some bt),.slice AG P.length cG,.map (some bk),.slice AT P.length cT,.slice none 0 0] 78)).heap[gb]? = some (.cells #[.slice A0 F.length c0,.slice A1 P.length c1] 25 (0,0))):=⟨blk_alloc HS.out _⟩
      have HG2:Aside0 (GAt w3 (v7524.alloc (.cells #[.slice A0 F.length c0,.slice A1 P.length c1,.slice A2 ord.length c2,.map (some bt),.slice AG P.length cG,.map (some bk),.slice AT P.length cT,.slice none 0 0] 78)) ⟨v7524.heap.size,bt,bk,A0,F.length,c0,A1,c1,A2,c2,.slice AG P.length cG,.slice AT P.length cT⟩ (startG P ord 0) (.slice none 0 0)):=⟨startAt HB.out HT.out HGn.out HKm.out HTo.out HNe.out HLbt.out HLbk.out HR1w.out hPc HR2w.out hOc⟩
      refine hK.out _ _ HS2.out ?_
      try simp only [Act.put,zA,zB,zC]
      clear hK K HS HT HGn HKm HTo HNe HLbt HLbk
      generalize hq:v7524.alloc (.cells #[.slice A0 F.length c0,.slice A1 P.length c1,.slice A2 ord.length c2,.map (some bt),.slice AG P.length cG,.map (some bk),.slice AT P.length cT,.slice none 0 0] 78)=wf at HS2 HG2 ⊢
      clear hq
      have HS:=HS2
      clear HS2
      refine tK (v:=.pointer (some ⟨v7524.heap.size,0,none⟩)) 10 HS.out (fun w9 h9=>?hy) ?_
      case hy=>(skip;go_simp)
      try simp only [Act.put,zA,zB,zC]
      refine done_held (by kernel_rfl) ?_
      go_wp2
      go_meet
      case rel=>exact ⟨_,rfl,HG2⟩
     exact AllReadyH.nil
    refine AllReadyH.cons (by rfl) (fun K hK0=>?_) ?_
    ·
     have hK:=zF (fun (a:Act) (w:World) h1=>hK0.out a w h1)
     clear hK0
     refine step_mkB (by rfl) rfl (.tmp 29) (.tmp 29) rfl P.length (by rfl) (by rfl) hn w3.heap.size HB.out.size ?_
     intro AG cG v754 hR hb
     have HGn:=zF hR
     clear hR
     replace HTo:=zF (Kd.R_below HTo.out hb)
     replace HKm:=zF (HKm.out.kept hb)
     replace HS:=zF (blk_below HS.out hb)
     replace HB:=zF (below_step HB.out hb)
     clear hb
     refine hK.out _ _ HS.out (fun _=>?_)
     try simp only [Act.put,zA,zB,zC]
     clear hK K
     refine wpAnyH_ready (rs:=[2]) (by kernel_rfl) (by simp) ?_
     refine AllReadyH.cons (by rfl) (fun K hK0=>?_) ?_
     ·
      have hK:=zF (fun (a:Act) (w:World) h1=>hK0.out a w h1)
      clear hK0
      refine step_mapM (by rfl) 75 3 rfl Try.underlying75 ?_
      intro v7542 hm hb
      have hsz:=HB.out.size
      have hlt:=HKm.out.lt
      have HLbt:Aside0 (w3.heap.size≤v754.heap.size):=⟨hsz⟩
      obtain ⟨bt,hq⟩:∃ q,q=v754.heap.size:=⟨_,rfl⟩
      rw [← hq] at hm HLbt ⊢
      have HNe:Aside0 (bt≠bk):=⟨by omega⟩
      clear hlt
      have HT:=zF hm
      clear hm hq hsz
      replace HTo:=zF (Kd.R_below HTo.out hb)
      replace HKm:=zF (HKm.out.kept hb)
      replace HGn:=zF (Kd.R_below HGn.out hb)
      replace HS:=zF (blk_below HS.out hb)
      replace HB:=zF (below_step HB.out hb)
      clear hb
      refine hK.out _ _ HS.out (fun _=>?_)
      try simp only [Act.put,zA,zB,zC]
      clear hK K
      refine tK (v:=.agg #[.slice A0 F.length c0,.slice A1 P.length c1,.slice A2 ord.length c2,.map (some bt),.slice AG P.length cG,.map (some bk),.slice AT P.length cT,.slice none 0 0]) 8 HS.out (fun w9 h9=>?hy) ?_
      case hy=>(skip;go_simp)
      try simp only [Act.put,zA,zB,zC]
      refine only_held 9 rfl (by kernel_rfl) (fun K hK=>?_)
      rw [if_pos (by rfl)]
      go_simp
      have HS2:Aside0 ((v7542.alloc (.cells #[.slice A0 F.length c0,.slice A1 P.length c1,.slice A2 ord.length c2,.map (some bt),.slice AG P.length cG,.map (some bk),.slice AT P.length cT,.slice none 0 0] 78)).heap[gb]? = some (.cells #[.slice A0 F.length c0,.slice A1 P.length c1] 25 (0,0))):=⟨blk_alloc HS.out _⟩
      have HG2:Aside0 (GAt w3 (v7542.alloc (.cells #[.slice A0 F.length c0,.slice A1 P.length c1,.slice A2 ord.length c2,.map (some bt),.slice AG P.length cG,.map (some bk),.slice AT P.length cT,.slice none 0 0] 78)) ⟨v7542.heap.size,bt,bk,A0,F.length,c0,A1,c1,A2,c2,.slice AG P.length cG,.slice AT P.length cT⟩ (startG P ord 0) (.slice none 0 0)):=⟨startAt HB.out HT.out HGn.out HKm.out HTo.out HNe.out HLbt.out HLbk.out HR1w.out hPc HR2w.out hOc⟩
      refine hK.out _ _ HS2.out ?_
      try simp only [Act.put,zA,zB,zC]
      clear hK K HS HT HGn HKm HTo HNe HLbt HLbk
      generalize hq:v7542.alloc (.cells #[.slice A0 F.length c0,.slice A1 P.length c1,.slice A2 ord.length c2,.map (some bt),.slice AG P.length cG,.map (some bk),.slice AT P.length cT,.slice none 0 0] 78)=wf at HS2 HG2 ⊢
      clear hq
      have HS:=HS2
      clear HS2
      refine tK (v:=.pointer (some ⟨v7542.heap.size,0,none⟩)) 10 HS.out (fun w9 h9=>?hy) ?_
      case hy=>(skip;go_simp)
      try simp only [Act.put,zA,zB,zC]
      refine done_held (by kernel_rfl) ?_
      go_wp2
      go_meet
      case rel=>exact ⟨_,rfl,HG2⟩
     exact AllReadyH.nil
    exact AllReadyH.nil
   exact AllReadyH.nil
  exact AllReadyH.nil
 case rest =>
  obtain ⟨a,rfl,HG⟩:=hcut
  have x1:wc.cell? ⟨gb,1,none⟩=some (.slice A1 P.length c1):=(blk_cell (blk_below HX3.out HG.out.below) 1).trans rfl
  clear hmm
  go_wp2
  clear x1
  go_loopg [9,10,39] P.length (fun gk _ _ v39 w'=>∃ i:Nat,v39 = .int .i64 i∧Aside0 (i≤P.length∧gk=P.length - i)∧Aside0 (GAt w3 w' a (startG P ord i) (.slice none 0 0)))
  case atStart=>exact ⟨0,rfl,⟨Nat.zero_le _,rfl⟩,HG⟩
  case round =>
   clear HG
   obtain ⟨i,rfl,HI,HG⟩:=hrel
   have hi:=HI.out.1
   by_cases hlt:i < P.length
   ·
    obtain ⟨ad,A3,c3,e,x0,x1,x2,l2,g2⟩:=at_T41 HR1.out (i:Int) (by omega) (by omega)
    subst e
    simp only [Int.toNat_natCast] at x0 x1 x2
    replace x0:=pw_cell_below (below_step HB3.out HG.out.below) x0
    replace x1:=pw_cell_below (below_step HB3.out HG.out.below) x1
    replace x2:=pw_cell_below (below_step HB3.out HG.out.below) x2
    have HOp:=zF (HOK1.out _ (rd41_mem hlt)).1
    have HTy:Aside0 (((rd_T41 P (i:Int)).f1 != 0)=true→startG P ord (i + 1)={ startG P ord i with ten:=fun f=>if f=(rd_T41 P (i:Int)).f1 then some (i:Int) else (startG P ord i).ten f }):=⟨fun h=>by
     have ht:tenK P (i + 1)=fun f=>if f=(rd_T41 P (i:Int)).f1 then some (i:Int) else tenK P i f:=by rw [tenK,if_pos h]
     unfold startG;rw [ht]⟩
    have HTn:Aside0 (((rd_T41 P (i:Int)).f1 != 0)=false→startG P ord (i + 1)=startG P ord i):=⟨fun h=>by unfold startG;rw [show tenK P (i + 1)=tenK P i from by rw [tenK,if_neg (by rw [h];decide)]]⟩
    have HLT:=zF hlt
    clear g2 l2
    generalize rd_T41 P (i:Int)=p at *
    cases hz:(p.f1 != 0) with
    | false =>
     have HTe:=zF (HTn.out hz)
     go_wp2
     go_roundg (P.length - (i + 1))
     case measure=>have:=HI.out;have:=HLT.out;omega
     case rel=>exact ⟨i + 1,by go_num,⟨by have:=HLT.out;omega,rfl⟩,⟨by rw [HTe.out];exact HG.out.kept (below_alloc (Below.refl _ _) _)⟩⟩
    | true =>
     have HTe:=zF (HTy.out hz)
     clear HTy HTn
     go_upto_region 9 with (fail)
     clear x0 x1 x2 hz
     have HBa:Aside0 (Below wr.heap.size wr (wr.alloc (.cells #[.int .i64 p.f0,.int .i64 p.f1,.slice A3 p.f2.length c3] 41))):=⟨below_alloc (Below.refl _ _) _⟩
     have HXa:=zF (blk_new wr (.cells #[.int .i64 p.f0,.int .i64 p.f1,.slice A3 p.f2.length c3] 41))
     generalize wr.alloc (.cells #[.int .i64 p.f0,.int .i64 p.f1,.slice A3 p.f2.length c3] 41)=wa at HBa HXa ⊢
     refine wp_region_any (by kernel_rfl) ?_
     refine wpAny_of_held (S:=fun W=>W.heap[wr.heap.size]? = some (.cells #[.int .i64 p.f0,.int .i64 p.f1,.slice A3 p.f2.length c3] 41 (0,0))∧W.cell? ⟨a.g,3,none⟩=some (.map (some a.bt))) _ _ _ _ ?_
     show wpAnyH _ _ _ _ _ 8 (Array.replicate 8 false) _ wa.drew
     have HGx:=zF (HG.out.kept (below_drew HBa.out))
     have HS:(fun W=>W.heap[wr.heap.size]? = some (.cells #[.int .i64 p.f0,.int .i64 p.f1,.slice A3 p.f2.length c3] 41 (0,0))∧W.cell? ⟨a.g,3,none⟩=some (.map (some a.bt))) wa.drew:=⟨HXa.out,HGx.out.c3⟩
     clear HG HBa HXa
     generalize wa.drew=wx at HS HGx ⊢
     refine tK (v:=.pointer (some ⟨a.g,0,none⟩)) 0 HS (fun w9 h9=>?hy) ?_
     case hy=>(skip;go_simp)
     try simp only [Act.put,zA,zB,zC]
     refine tK (v:=.pointer (some ⟨a.g,0,none⟩)) 1 HS (fun w9 h9=>?hy) ?_
     case hy=>(skip;go_simp)
     try simp only [Act.put,zA,zB,zC]
     refine tK (v:=.pointer (some ⟨a.g,3,none⟩)) 2 HS (fun w9 h9=>?hy) ?_
     case hy=>(skip;go_simp)
     try simp only [Act.put,zA,zB,zC]
     refine tK (v:=.map (some a.bt)) 3 HS (fun w9 h9=>?hy) ?_
     case hy=>(have z:=h9.2;go_simp)
     try simp only [Act.put,zA,zB,zC]
     refine tK (v:=.pointer (some ⟨wr.heap.size,1,none⟩)) 4 HS (fun w9 h9=>?hy) ?_
     case hy=>(skip;go_simp)
     try simp only [Act.put,zA,zB,zC]
     refine tK (v:=.int .i64 p.f1) 5 HS (fun w9 h9=>?hy) ?_
     case hy=>(have z:=(blk_cell h9.1 1).trans rfl;go_simp)
     try simp only [Act.put,zA,zB,zC]
     refine tK (v:=.int .i64 i) 6 HS (fun w9 h9=>?hy) ?_
     case hy=>(skip;go_simp)
     try simp only [Act.put,zA,zB,zC]
     refine only_held 7 rfl (by kernel_rfl) (fun K hK=>?_)
     obtain ⟨n5,hm5o⟩:=HGx.out.ten
     refine step_store (by rfl) (.tmp 50) (.tmp 52) (.tmp 53) 75 rfl 3 3 keyInt Try.underlying75 a.bt n5 (intF (Value.int .i64) (startG P ord i).ten) (by rfl) hm5o (.int .i64 p.f1) (.int .i64 i) (.int .i64 p.f1) (by rfl) (by rfl) (okI_key HOp.out) ?_
     intro w5 hm5 hg5
     rw [intF_put] at hm5
     have HG5:=zF (HGx.out.ten_put hg5 hm5)
     rw [← HTe.out] at HG5
     have HS5:(fun W=>W.heap[wr.heap.size]? = some (.cells #[.int .i64 p.f0,.int .i64 p.f1,.slice A3 p.f2.length c3] 41 (0,0))∧W.cell? ⟨a.g,3,none⟩=some (.map (some a.bt))) w5:=⟨(hg5.block _ (blk_lt HS.1) (fun e=>map_ne hm5o HS.1 (Option.some.inj e))).trans HS.1,HG5.out.c3⟩
     clear hm5 hg5 hm5o HGx HTe
     refine hK.out _ _ HS5 ?_
     try simp only [Act.put,zA,zB,zC]
     clear hK K HS HS5
     refine done_held (by kernel_rfl) ?_
     go_wp2
     go_roundg (P.length - (i + 1))
     case measure=>have:=HI.out;have:=HLT.out;omega
     case rel=>exact ⟨i + 1,by go_num,⟨by have:=HLT.out;omega,rfl⟩,HG5⟩
   ·
    obtain rfl:i=P.length:=by omega
    have HLv:=zF (leave_calls HG.out HG0.out)
    go_upto_region 12 with (go_at_call 44;(with_reducible refine HLv.out.mono ?_);rintro e w5 ⟨rfl,v5,hG5⟩;have HG5:=zF hG5;clear hG5)
    go_loopg [58] (P.length + 1) (fun gk _ w'=>∃ s vR,Aside0 (GAt w3 w' a s vR)∧Aside0 (RunOk gk s)∧Aside0 (runG gk s=finalG P ord))
    case atStart=>exact ⟨_,_,HG5,HRun,⟨rfl⟩⟩
    case round =>
     clear HG5 HG HRun HI hi
     obtain ⟨s,vR,HG,HRk,HEq⟩:=hrel
     have hok:GOk s:=by
      have h:=HRk.out
      cases gk with
      | zero=>exact h.1
      | succ k=>exact h.1
     have HFi:=zF (first_calls HG.out hok)
     have HOk:=zF hok
     clear hok
     have HStop:Aside0 (firstS s < 0→s=finalG P ord):=⟨fun h=>by
      have h2:=HEq.out
      cases gk with
      | zero=>exact h2
      | succ k=>rw [← h2];unfold runG;rw [if_pos h]⟩
     have HGo:Aside0 (¬ firstS s < 0→∃ k,gk=k + 1∧RunOk k (stepG s)∧runG k (stepG s)=finalG P ord∧∃ c,c≤100∧RgOk c s.rg∧(0 < (cycleS s).length∧(cycleS s).length≤64)∧(∀ x ∈ cycleS s,0≤x∧x < s.P.length)):=⟨fun h=>by
      have h1:=HRk.out
      have h2:=HEq.out
      cases gk with
      | zero=>exact absurd h1.2 h
      | succ k =>
       obtain ⟨⟨c,e1,e2⟩,e3,e4,e5⟩:=h1.2 h
       exact ⟨k,rfl,e5,by (rw [← h2];(conv=>rhs;unfold runG);rw [if_neg h]),c,e1,e2,e3,e4⟩⟩
     obtain ⟨fv,hfv⟩:∃ fv,firstS s=fv:=⟨_,rfl⟩
     rw [hfv] at HFi HStop HGo
     clear hfv
     cases hd:decide (fv ≥ 0) with
     | true =>
      obtain ⟨k,hgk,hr,he,c,e1,e2,e3,e4⟩:=HGo.out (by simpa using hd)
      subst hgk
      have HSt:=zF (fun (W:World) (hb:Below wr.heap.size wr W)=>step_calls (HG.out.kept hb) HOk.out c e1 e2 e3 e4)
      have HR2':=zF hr
      have HE2:=zF he
      clear hr he e1 e2 e3 e4 HStop HGo
      go_wp2_with (first
       | (go_at_call 45;(with_reducible refine HFi.out.mono ?_);rintro e w6 ⟨rfl,hb⟩;have HB6:=zF hb;clear hb)
       | (go_at_call 46;(with_reducible refine (HSt.out _ HB6.out).mono ?_);rintro e w7 ⟨rfl,v7,hG7⟩;have HG7:=zF hG7;clear hG7))
      go_roundg k
      case measure=>omega
      case rel=>exact ⟨_,_,HG7,HR2',HE2⟩
     | false =>
      have HFs:=zF (HStop.out (by simpa using hd))
      clear HStop HGo HRk HEq HOk
      go_upto_region 14 with (go_at_call 45;(with_reducible refine HFi.out.mono ?_);rintro e w6 ⟨rfl,hb⟩;have HB6:=zF hb;clear hb)
      have HG6:=zF (HG.out.kept HB6.out)
      obtain rfl:=HFs.out
      clear HFs HFi HG HB6 hd
      have hTl:(finalG P ord).tos.length=P.length:=by rw [HFin.out.tos,finalG_P]
      obtain ⟨AT,cT,eT,lT,rT⟩:=HG6.out.tosC
      rw [hTl] at eT rT
      have HVT:=zF eT
      have HRT:=zF rT
      clear hTl eT lT rT
      go_upto_region 15 with ((with_reducible refine gate_dst (N:=63) rfl ?_);refine wpList_mkM rfl rfl (.tmp 62) (.tmp 62) rfl P.length rfl rfl hn w3.heap.size HG6.out.below.size ?_;intro AM cM wm hR hb;have HM0:=zF hR;have HBm:=zF hb;clear hR hb)
      have x1:wm.cell? ⟨gb,1,none⟩=some (.slice A1 P.length c1):=(blk_cell (blk_below (blk_below HX3.out HG6.out.below) HBm.out) 1).trans rfl
      go_wp2
      clear x1
      go_loopg [12,13,67] P.length (fun gk _ _ v67 w'=>∃ i:Nat,v67 = .int .i64 i∧Aside0 (i≤P.length∧gk=P.length - i)∧Aside0 (Below w6.heap.size w6 w')∧Aside0 (Kd.R k39 39 w' w3.heap.size (fun k=>w6.heap.size≤k) (.slice AM P.length cM) (outM P (finalG P ord).tos i)))
      case atStart=>exact ⟨0,rfl,⟨Nat.zero_le _,rfl⟩,HBm,HM0⟩
      case round =>
       clear HM0 HBm
       obtain ⟨i,rfl,HI,HBr,HM⟩:=hrel
       have hi:=HI.out.1
       by_cases hlt:i < P.length
       ·
        obtain ⟨ad,A3,c3,e,x0,x1,x2,l2,g2⟩:=at_T41 HR1.out (i:Int) (by omega) (by omega)
        subst e
        simp only [Int.toNat_natCast] at x0 x1 x2
        replace x0:=pw_cell_below (below_step (below_step HB3.out HG6.out.below) HBr.out) x0
        replace x1:=pw_cell_below (below_step (below_step HB3.out HG6.out.below) HBr.out) x1
        replace x2:=pw_cell_below (below_step (below_step HB3.out HG6.out.below) HBr.out) x2
        have HON:Aside0 (outM P (finalG P ord).tos (i + 1)=(outM P (finalG P ord).tos i).set i ⟨(rd_T41 P (i:Int)).f0,(rd_T41 P (i:Int)).f1,rd (finalG P ord).tos (i:Int)⟩):=⟨rfl⟩
        have hTl:(finalG P ord).tos.length=P.length:=by rw [HFin.out.tos,finalG_P]
        have hti:i < (finalG P ord).tos.length:=by rw [hTl];exact hlt
        have rT:=HRT.out
        rw [← hTl] at rT
        obtain ⟨ae,e,yt⟩:=intC_at rT (i:=i) hti
        clear rT hTl hti
        subst e
        have HLT:=zF hlt
        obtain ⟨bM,cM2,efM,_,_,cellsM,hbM⟩:=Kd.R_form HM.out (by rw [outM_len];omega)
        injection efM with e1 e2 e3
        clear e2 e3
        subst e1
        have HbM:Aside0 (w6.heap.size≤bM):=⟨HM.out.1 bM rfl⟩
        clear g2 l2 hbM
        generalize rd_T41 P (i:Int)=p at *
        generalize rd (finalG P ord).tos (i:Int)=tv at *
        have hlt':(i:Int) < (P.length:Int):=by omega
        go_upto_region 18 with (fail)
        clear x0 x1 x2
        have HBa:Aside0 (Below wr.heap.size wr (wr.alloc (.cells #[.int .i64 p.f0,.int .i64 p.f1,.slice A3 p.f2.length c3] 41))):=⟨below_alloc (Below.refl _ _) _⟩
        have HXa:=zF (blk_new wr (.cells #[.int .i64 p.f0,.int .i64 p.f1,.slice A3 p.f2.length c3] 41))
        generalize wr.alloc (.cells #[.int .i64 p.f0,.int .i64 p.f1,.slice A3 p.f2.length c3] 41)=wa at HBa HXa ⊢
        refine wp_region_split 14 (fun W=>W.heap[wr.heap.size]? = some (.cells #[.int .i64 p.f0,.int .i64 p.f1,.slice A3 p.f2.length c3] 41 (0,0))∧W.cell? ⟨a.g,6,none⟩=some (.slice (some ae) P.length cT)∧W.cell? (ae.add i)=some (.int .i64 tv)) (by kernel_rfl) (by kernel_rfl) ?_
        simp only [List.take_succ_cons,List.take_zero,List.drop_succ_cons,List.drop_zero]
        have HBx:Aside0 (Below wr.heap.size wr wa.drew):=⟨below_drew HBa.out⟩
        have HBw:=zF (below_step HBr.out HBx.out)
        have HMx:=zF (Kd.R_below HM.out HBx.out)
        have hc6:wa.drew.cell? ⟨a.g,6,none⟩=some (.slice (some ae) P.length cT):=by rw [← HVT.out];exact (HG6.out.kept HBw.out).c6
        have HS:(fun W=>W.heap[wr.heap.size]? = some (.cells #[.int .i64 p.f0,.int .i64 p.f1,.slice A3 p.f2.length c3] 41 (0,0))∧W.cell? ⟨a.g,6,none⟩=some (.slice (some ae) P.length cT)∧W.cell? (ae.add i)=some (.int .i64 tv)) wa.drew:=⟨HXa.out,hc6,pw_cell_below HBw.out yt⟩
        clear HXa HBa HBr HM yt hc6
        generalize wa.drew=wx at HS HBx HBw HMx ⊢
        refine tK (v:=.slice (some ⟨bM,0,none⟩) P.length cM) 0 HS (fun w9 h9=>?hy) ?_
        case hy=>(skip;go_simp)
        try simp only [Act.put,zA,zB,zC]
        refine tK (v:=.int .i64 i) 1 HS (fun w9 h9=>?hy) ?_
        case hy=>(skip;go_simp)
        try simp only [Act.put,zA,zB,zC]
        refine tK (v:=.pointer (some ⟨wr.heap.size,0,none⟩)) 2 HS (fun w9 h9=>?hy) ?_
        case hy=>(skip;go_simp)
        try simp only [Act.put,zA,zB,zC]
        refine tK (v:=.int .i64 p.f0) 3 HS (fun w9 h9=>?hy) ?_
        case hy=>(have z:=(blk_cell h9.1 0).trans rfl;go_simp)
        try simp only [Act.put,zA,zB,zC]
        refine tK (v:=.pointer (some ⟨wr.heap.size,1,none⟩)) 4 HS (fun w9 h9=>?hy) ?_
        case hy=>(skip;go_simp)
        try simp only [Act.put,zA,zB,zC]
        refine tK (v:=.int .i64 p.f1) 5 HS (fun w9 h9=>?hy) ?_
        case hy=>(have z:=(blk_cell h9.1 1).trans rfl;go_simp)
        try simp only [Act.put,zA,zB,zC]
        refine tK (v:=.pointer (some ⟨a.g,0,none⟩)) 6 HS (fun w9 h9=>?hy) ?_
        case hy=>(skip;go_simp)
        try simp only [Act.put,zA,zB,zC]
        refine tK (v:=.pointer (some ⟨a.g,0,none⟩)) 7 HS (fun w9 h9=>?hy) ?_
        case hy=>(skip;go_simp)
        try simp only [Act.put,zA,zB,zC]
        refine tK (v:=.pointer (some ⟨a.g,6,none⟩)) 8 HS (fun w9 h9=>?hy) ?_
        case hy=>(skip;go_simp)
        try simp only [Act.put,zA,zB,zC]
        refine tK (v:=.slice (some ae) P.length cT) 9 HS (fun w9 h9=>?hy) ?_
        case hy=>(have z:=h9.2.1;go_simp)
        try simp only [Act.put,zA,zB,zC]
        refine tK (v:=.int .i64 i) 10 HS (fun w9 h9=>?hy) ?_
        case hy=>(skip;go_simp)
        try simp only [Act.put,zA,zB,zC]
        refine tK (v:=.pointer (some (ae.add i))) 11 HS (fun w9 h9=>?hy) ?_
        case hy=>(skip;go_simp)
        try simp only [Act.put,zA,zB,zC]
        refine tK (v:=.int .i64 tv) 12 HS (fun w9 h9=>?hy) ?_
        case hy=>(have z:=h9.2.2;go_simp)
        try simp only [Act.put,zA,zB,zC]
        refine tK (v:=.agg #[.int .i64 p.f0,.int .i64 p.f1,.int .i64 tv]) 13 HS (fun w9 h9=>?hy) ?_
        case hy=>(skip;go_simp)
        try simp only [Act.put,zA,zB,zC]
        refine done_held (by kernel_rfl) ?_
        clear HS
        show wpList _ _ _ _ _ _
        obtain ⟨cv,hcl,_,hcc,hfr⟩:=Kd.R_elem HMx.out z39 (i:Int) (by omega) (by omega)
        obtain ⟨e0,e1,e2,rfl⟩:∃ e0 e1 e2,cv=[e0,e1,e2]:=by match cv,hcl with|[e0,e1,e2],_=>exact ⟨e0,e1,e2,rfl⟩
        rw [Int.toNat_natCast] at hcc hfr
        have q0:wx.cell? ⟨bM,i * 3,none⟩=some e0:=hcc 0 e0 rfl
        have q1:wx.cell? ⟨bM,i * 3 + 1,none⟩=some e1:=hcc 1 e1 rfl
        have q2:wx.cell? ⟨bM,i * 3 + 2,none⟩=some e2:=hcc 2 e2 rfl
        have r0:wx.frozen? ⟨bM,i * 3,none⟩=false:=hfr 0
        have r1:wx.frozen? ⟨bM,i * 3 + 1,none⟩=false:=hfr 1
        have r2:wx.frozen? ⟨bM,i * 3 + 2,none⟩=false:=hfr 2
        clear hcc hfr hcl
        have HMn:=zF (mv_put HMx.out i hlt ⟨p.f0,p.f1,tv⟩)
        have hBn:Below w6.heap.size w6 (wx.setCells bM (i * 3) [.int .i64 p.f0,.int .i64 p.f1,.int .i64 tv]):=HBw.out.grown HMn.out.2 HBw.out.size (fun k e=>by cases e;exact HbM.out)
        have HBn:=zF hBn
        clear hBn
        go_wp2
        go_roundg (P.length - (i + 1))
        case measure=>have:=HI.out;have:=HLT.out;omega
        case rel=>exact ⟨i + 1,by go_num,⟨by have:=HLT.out;omega,rfl⟩,HBn,⟨by rw [HON.out];exact HMn.out.1⟩⟩
       ·
        obtain rfl:i=P.length:=by omega
        go_upto_region 20 with (fail)
        refine wp_region_any (by kernel_rfl) ?_
        refine wpAny_of_held (S:=fun W=>W.cell? ⟨a.g,7,none⟩=some vR) _ _ _ _ ?_
        show wpAnyH _ _ _ _ _ 8 (Array.replicate 8 false) _ wr.drew
        have HGf:=zF (HG6.out.kept (below_drew HBr.out))
        have HMf:=zF (Kd.R_below HM.out (below_drew (Below.refl _ _)))
        have HS:(fun W=>W.cell? ⟨a.g,7,none⟩=some vR) wr.drew:=HGf.out.c7
        have HRg:=zF (Kd.S_below (Kd.S_bound HG6.out.rg) (below_drew HBr.out))
        clear HG6 HBr HM
        generalize wr.drew=wx at HS HGf HMf HRg ⊢
        refine tK (v:=.slice AM P.length cM) 0 HS (fun w9 h9=>?hy) ?_
        case hy=>(skip;go_simp)
        try simp only [Act.put,zA,zB,zC]
        refine tK (v:=.pointer (some ⟨a.g,0,none⟩)) 1 HS (fun w9 h9=>?hy) ?_
        case hy=>(skip;go_simp)
        try simp only [Act.put,zA,zB,zC]
        refine tK (v:=.pointer (some ⟨a.g,0,none⟩)) 2 HS (fun w9 h9=>?hy) ?_
        case hy=>(skip;go_simp)
        try simp only [Act.put,zA,zB,zC]
        refine tK (v:=.pointer (some ⟨a.g,7,none⟩)) 3 HS (fun w9 h9=>?hy) ?_
        case hy=>(skip;go_simp)
        try simp only [Act.put,zA,zB,zC]
        refine tK (v:=vR) 4 HS (fun w9 h9=>?hy) ?_
        case hy=>(skip;go_simp)
        try simp only [Act.put,zA,zB,zC]
        refine tK (v:=.slice AM P.length cM) 5 HS (fun w9 h9=>?hy) ?_
        case hy=>(skip;go_simp)
        try simp only [Act.put,zA,zB,zC]
        refine tK (v:=vR) 6 HS (fun w9 h9=>?hy) ?_
        case hy=>(skip;go_simp)
        try simp only [Act.put,zA,zB,zC]
        refine tK (v:=.int .i64 0) 7 HS (fun w9 h9=>?hy) ?_
        case hy=>(skip;go_simp)
        try simp only [Act.put,zA,zB,zC]
        refine done_held (by kernel_rfl) ?_
        clear HS
        go_wp2
        refine bodyPost_ret (v:=.tuple #[.slice AM P.length cM,vR,.int .i64 0]) (by simp [results,Try.f18,go_sem]) rfl ?_
        have hsz:=HB3.out.size
        exact ⟨_,_,rfl,Kd.R_lower (Kd.R_mono HMf.out (fun _ _=>trivial)) hsz,Kd.S_lower (Kd.S_mono HRg.out (fun k hk e=>by have h1:=HMf.out.1 k e.symm;have h2:=hk.2.2.1;omega)) hsz,below_step HB3.out HGf.out.below⟩
end Go.Proofs.Ytjgnkhfgmpaljaa.P
