/- Lemmas, readings of functions as plain Lean functions and contracts of functions of the program, for the claimed theorem; each one's conditions stand in its statement. -/
import Derived.Test.YtjgnkhfgmpaljaaQTD13
import Derived.Test.YtjgnkhfgmpaljaaQTD14
import Derived.Deep.DeepCutAuto
import Derived.Deep.CutBlock
namespace Go.Proofs.Ytjgnkhfgmpaljaa.P
open Go.RowKit Go.Proofs.YtjgnkhfgmpaljaaW.PrintWords Go.Proofs.YtjgnkhfgmpaljaaW.PrintLast Go.Proofs.YtjgnkhfgmpaljaaW.PrintMore Go.Proofs.Ytjgnkhfgmpaljaa.M
set_option linter.unusedVariables false
set_option linter.unusedSimpArgs false
set_option maxHeartbeats 16000000 in
set_option maxRecDepth 100000 in
theorem record_calls {w0 w:World} {a:GA} {s:GS} {vR:Value} (h:GAt w0 w a s vR) (ok:GOk s) (c:Nat) (hc:c≤100) (hrg:RgOk c s.rg) (AL:Option Addr) (cL:Nat) (l:List Int) (hl:(Kd.int .i64).C w AL l.length l) (hlc:l.length≤cL) (hln:0 < l.length∧l.length≤64) (hlb:∀ x ∈ l,0≤x∧x < s.P.length) :
  Calls Try.prog 76 #[.pointer (some ⟨a.g,0,none⟩),.slice AL l.length cL] w (RecPost w0 w a s (recordS s l)):=by
 have HH:=zF h
 have HOK:=zF ok
 have HRG:=zF hrg
 have hn:=ok.n
 have HLB:=zF hlb
 have hl64:=hln.2
 have HCW:=zF (fun (W:World) (hb:Below w.heap.size w W) (q:Nat) (hq:q < s.P.length)=>want_calls (h.kept hb) ok q hq)
 have HCH:=zF (fun (W:World) (hb:Below w.heap.size w W) (q:Nat) (hq:q < s.P.length)=>holds_calls (h.kept hb) ok (wantS s q) (wantS_ok ok hq))
 have HCL:=zF hl
 have HPC:=zF h.parW
 have HC1:=zF h.c1
 have HB0:=zF (Below.refl w.heap.size w)
 have HR0:Aside0 (Kd.R k39 39 w w.heap.size (fun _=>True) (.slice none 0 0) (movesS s (l.take 0))):=⟨Kd.R_nil _ _ _ _ _⟩
 have hu41:=Try.underlying41
 have hu39:=Try.underlying39
 have HPc:=zF h.parc
 have HLn:=zF hln
 clear h ok hrg hlb hl hln
 go_enter Try.func76,Try.ntmps76
 go_wp2
 go_loopg [4,5,13] l.length (fun gk v4 v5 v13 w'=>∃ i:Nat,v13 = .int .i64 i∧v5 = .int .i64 (freeZ s l i)∧Aside0 (i≤l.length∧gk=l.length - i)∧Aside0 (Kd.R k39 39 w' w.heap.size (fun _=>True) v4 (movesS s (l.take i)))∧Aside0 (Below w.heap.size w w'))
 case atStart=>exact ⟨0,rfl,rfl,⟨Nat.zero_le _,rfl⟩,HR0,HB0⟩
 case round =>
  clear HR0 HB0
  obtain ⟨i,rfl,rfl,HI,HR,HB⟩:=hrel
  have hi:=HI.out.1
  by_cases hlt:i < l.length
  ·
   obtain ⟨adl,e,y⟩:=intC_at HCL.out (i:=i) hlt
   subst e
   obtain ⟨q0,q1⟩:=HLB.out _ (rd_mem hlt)
   obtain ⟨p,hp⟩:∃ p:Nat,rd l (i:Int)=p:=⟨(rd l (i:Int)).toNat,by omega⟩
   have HMv:Aside0 (movesS s (l.take (i + 1))=movesS s (l.take i) ++ [mvS s p]):=⟨by rw [movesS_snoc s hlt,hp]⟩
   have HFz:Aside0 (freeZ s l (i + 1)=if holdsS s (wantS s p)=true then freeZ s l i else i):=⟨by rw [← hp];rfl⟩
   rw [hp] at y
   replace y:=pw_cell_below HB.out y
   have hpl:p < s.P.length:=by omega
   have hpl':(p:Int) < (s.P.length:Int):=by omega
   have hlt':(i:Int) < (l.length:Int):=by omega
   have HPL:=zF hpl
   have HLT:=zF hlt
   clear hp q0 q1
   go_upto_region 5 with (fail)
   clear y
   obtain ⟨ad,A2,c2,e,x0,x1,x2,l2,g2⟩:=at_T41 HPC.out (p:Int) (by omega) (by omega)
   simp only [Int.toNat_natCast] at x0 x1 x2
   replace x0:=pw_cell_below HB.out x0
   replace x1:=pw_cell_below HB.out x1
   have c1:=pw_cell_below HB.out HC1.out
   rw [e] at c1
   clear x2 l2 g2 e
   have HMe:Aside0 (mvS s p=⟨(rd_T41 s.P (p:Int)).f0,(rd_T41 s.P (p:Int)).f1,wantS s p⟩):=⟨rfl⟩
   generalize (rd_T41 s.P (p:Int)).f0=z0 at *
   generalize (rd_T41 s.P (p:Int)).f1=z1 at *
   go_cut [8] (fun v8 wd=>∃ b:Nat,v8 = .pointer (some ⟨b,0,none⟩)∧Aside0 (wr.heap.size≤b)∧Aside0 (wd.heap[b]? = some (.cells #[.int .i64 z0,.int .i64 z1,.int .i64 (wantS s p)] 39 (0,0)))∧Aside0 (Below wr.heap.size wr wd))
   case first =>
    have HBw:=zF HB.out
    have HCp:=zF (fun W hb=>HCW.out W hb p hpl)
    clear HFz HMv HMe HI HR HLT HPL
    have HX:=zF (And.intro c1 (And.intro x0 x1))
    clear c1 x0 x1
    refine wp_region_split 23 (fun W=>Below wr.heap.size wr W) (by kernel_rfl) (by kernel_rfl) ?_
    simp only [List.take_succ_cons,List.take_zero,List.drop_succ_cons,List.drop_zero]
    have HS:Below wr.heap.size wr wr.drew:=below_drew (Below.refl _ _)
    have hzx:wr.heap.size≤wr.drew.heap.size:=Nat.le_refl _
    generalize wr.drew=wx at HS hzx ⊢
    refine tK (v:=.pointer (some ⟨a.g,0,none⟩)) 0 HS (fun w9 h9=>?hy) ?_
    case hy=>(skip;go_simp)
    try simp only [Act.put,zA,zB,zC]
    refine tK (v:=.pointer (some ⟨a.g,0,none⟩)) 1 HS (fun w9 h9=>?hy) ?_
    case hy=>(skip;go_simp)
    try simp only [Act.put,zA,zB,zC]
    refine tK (v:=.pointer (some ⟨a.g,0,none⟩)) 2 HS (fun w9 h9=>?hy) ?_
    case hy=>(skip;go_simp)
    try simp only [Act.put,zA,zB,zC]
    refine tK (v:=.pointer (some ⟨a.g,1,none⟩)) 3 HS (fun w9 h9=>?hy) ?_
    case hy=>(skip;go_simp)
    try simp only [Act.put,zA,zB,zC]
    refine tK (v:=.slice (some ad) s.P.length a.cP) 4 HS (fun w9 h9=>?hy) ?_
    case hy=>(have y1:=pw_cell_below h9 HX.out.1;go_simp)
    try simp only [Act.put,zA,zB,zC]
    refine tK (v:=.int .i64 p) 5 HS (fun w9 h9=>?hy) ?_
    case hy=>(skip;go_simp)
    try simp only [Act.put,zA,zB,zC]
    refine tK (v:=.pointer (some (ad.add (p * 3)))) 6 HS (fun w9 h9=>?hy) ?_
    case hy=>(skip;go_simp)
    try simp only [Act.put,zA,zB,zC]
    refine tK (v:=.pointer (some (ad.add (p * 3)))) 7 HS (fun w9 h9=>?hy) ?_
    case hy=>(skip;go_simp)
    try simp only [Act.put,zA,zB,zC]
    refine tK (v:=.int .i64 z0) 8 HS (fun w9 h9=>?hy) ?_
    case hy=>(have y1:=pw_cell_below h9 HX.out.2.1;go_simp)
    try simp only [Act.put,zA,zB,zC]
    refine tK (v:=.pointer (some ⟨a.g,0,none⟩)) 9 HS (fun w9 h9=>?hy) ?_
    case hy=>(skip;go_simp)
    try simp only [Act.put,zA,zB,zC]
    refine tK (v:=.pointer (some ⟨a.g,0,none⟩)) 10 HS (fun w9 h9=>?hy) ?_
    case hy=>(skip;go_simp)
    try simp only [Act.put,zA,zB,zC]
    refine tK (v:=.pointer (some ⟨a.g,0,none⟩)) 11 HS (fun w9 h9=>?hy) ?_
    case hy=>(skip;go_simp)
    try simp only [Act.put,zA,zB,zC]
    refine tK (v:=.pointer (some ⟨a.g,1,none⟩)) 12 HS (fun w9 h9=>?hy) ?_
    case hy=>(skip;go_simp)
    try simp only [Act.put,zA,zB,zC]
    refine tK (v:=.slice (some ad) s.P.length a.cP) 13 HS (fun w9 h9=>?hy) ?_
    case hy=>(have y1:=pw_cell_below h9 HX.out.1;go_simp)
    try simp only [Act.put,zA,zB,zC]
    refine tK (v:=.int .i64 p) 14 HS (fun w9 h9=>?hy) ?_
    case hy=>(skip;go_simp)
    try simp only [Act.put,zA,zB,zC]
    refine tK (v:=.pointer (some (ad.add (p * 3)))) 15 HS (fun w9 h9=>?hy) ?_
    case hy=>(skip;go_simp)
    try simp only [Act.put,zA,zB,zC]
    refine tK (v:=.pointer (some ⟨(ad.add (p * 3)).block,(ad.add (p * 3)).off + 1,none⟩)) 16 HS (fun w9 h9=>?hy) ?_
    case hy=>(skip;go_simp)
    try simp only [Act.put,zA,zB,zC]
    refine tK (v:=.int .i64 z1) 17 HS (fun w9 h9=>?hy) ?_
    case hy=>(have y1:=pw_cell_below h9 HX.out.2.2;go_simp)
    try simp only [Act.put,zA,zB,zC]
    refine tK (v:=.pointer (some ⟨a.g,0,none⟩)) 18 HS (fun w9 h9=>?hy) ?_
    case hy=>(skip;go_simp)
    try simp only [Act.put,zA,zB,zC]
    refine tK (v:=.int .i64 p) 19 HS (fun w9 h9=>?hy) ?_
    case hy=>(skip;go_simp)
    try simp only [Act.put,zA,zB,zC]
    refine both_held 20 22 rfl rfl (by kernel_rfl) (fun K hK=>?oa) (fun K hK=>?ob)
    case oa =>
     rw [if_pos (by rfl)]
     go_simp
     go_at_call 72
     (with_reducible refine (HCp.out _ (below_step HBw.out HS)).mono ?_)
     rintro e w3 ⟨rfl,hb⟩
     replace HS:=below_then HS (HS.size) hb
     clear hb
     refine hK.out _ _ HS ?_
     try simp only [Act.put,zA,zB,zC]
     clear hK K
     refine tK (v:=.agg #[.int .i64 z0,.int .i64 z1,.int .i64 (wantS s (p:Int))]) 21 HS (fun w9 h9=>?hy) ?_
     case hy=>(skip;go_simp)
     try simp only [Act.put,zA,zB,zC]
     have hsz:=HS.size
     have HSB:=zF HS
     refine only_held 22 rfl (by kernel_rfl) (fun K hK=>?_)
     rw [if_pos (by rfl)]
     go_simp
     replace HS:=below_alloc HS (.cells #[.int .i64 0,.int .i64 0,.int .i64 0] 39)
     refine hK.out _ _ HS ?_
     try simp only [Act.put,zA,zB,zC]
     clear hK K
     refine done_held (by kernel_rfl) ?_
     show wpList _ _ _ _ _ _
     have BG:=zF (blk_new w3 (.cells #[.int .i64 0,.int .i64 0,.int .i64 0] 39))
     have hg:=hsz
     have s0:=(blk_cell BG.out 0).trans rfl
     have s1:=(blk_cell BG.out 1).trans rfl
     have s2:=(blk_cell BG.out 2).trans rfl
     have f0:=blk_frozen BG.out 0
     have f1:=blk_frozen BG.out 1
     have f2:=blk_frozen BG.out 2
     have HSA:=zF HS
     clear HS
     go_wp2
     go_meet
     case rel=>first|exact ⟨_,rfl,⟨hg⟩,⟨blk_put (blk_put (blk_put BG.out 0 _ rfl) 1 _ rfl) 2 _ rfl⟩,⟨below_set (below_set (below_set HSA.out hg) hg) hg⟩⟩|exact ⟨_,rfl,⟨hg⟩,⟨blk_new _ _⟩,⟨below_alloc HSB.out _⟩⟩
    case ob =>
     rw [if_pos (by rfl)]
     go_simp
     replace HS:=below_alloc HS (.cells #[.int .i64 0,.int .i64 0,.int .i64 0] 39)
     refine hK.out _ _ HS ?_
     try simp only [Act.put,zA,zB,zC]
     clear hK K
     have hsz:=hzx
     have BA:(wx.alloc (.cells #[.int .i64 0,.int .i64 0,.int .i64 0] 39)).heap[wx.heap.size]? = some (.cells #[.int .i64 0,.int .i64 0,.int .i64 0] 39 (0,0)):=blk_new wx (.cells #[.int .i64 0,.int .i64 0,.int .i64 0] 39)
     refine only_held 20 rfl (by kernel_rfl) (fun K hK=>?_)
     rw [if_pos (by rfl)]
     go_simp
     go_at_call 72
     (with_reducible refine (HCp.out _ (below_step HBw.out HS)).mono ?_)
     rintro e w3 ⟨rfl,hb⟩
     replace HS:=below_then HS (HS.size) hb
     have BB:=blk_below BA hb;clear hb
     refine hK.out _ _ HS ?_
     try simp only [Act.put,zA,zB,zC]
     clear hK K
     refine tK (v:=.agg #[.int .i64 z0,.int .i64 z1,.int .i64 (wantS s (p:Int))]) 21 HS (fun w9 h9=>?hy) ?_
     case hy=>(skip;go_simp)
     try simp only [Act.put,zA,zB,zC]
     refine done_held (by kernel_rfl) ?_
     show wpList _ _ _ _ _ _
     have BG:=zF (BB)
     have hg:=hsz
     have s0:=(blk_cell BG.out 0).trans rfl
     have s1:=(blk_cell BG.out 1).trans rfl
     have s2:=(blk_cell BG.out 2).trans rfl
     have f0:=blk_frozen BG.out 0
     have f1:=blk_frozen BG.out 1
     have f2:=blk_frozen BG.out 2
     have HSA:=zF HS
     clear HS
     go_wp2
     go_meet
     case rel=>first|exact ⟨_,rfl,⟨hg⟩,⟨blk_put (blk_put (blk_put BG.out 0 _ rfl) 1 _ rfl) 2 _ rfl⟩,⟨below_set (below_set (below_set HSA.out hg) hg) hg⟩⟩|exact ⟨_,rfl,⟨hg⟩,⟨blk_new _ _⟩,⟨below_alloc HSB.out _⟩⟩
   case rest =>
    obtain ⟨b,rfl,HBb,HBk,HBd⟩:=hcut
    have HB2:=zF (below_step HB.out HBd.out)
    have HR2:=zF (Kd.R_below HR.out HBd.out)
    have HBn:=zF (show w.heap.size≤b from Nat.le_trans HB.out.size HBb.out)
    have y0:=(blk_cell HBk.out 0).trans rfl
    have y1:=(blk_cell HBk.out 1).trans rfl
    have y2:=(blk_cell HBk.out 2).trans rfl
    have HM1:Aside0 (∀ W,k39.M W w.heap.size (fun _=>False) (mvS s p) [.int .i64 z0,.int .i64 z1,.int .i64 (wantS s p)]):=⟨fun W=>by rw [HMe.out];exact k39_mkM _ _ _ _⟩
    have hml:(movesS s (l.take i)).length≤64:=by rw [movesS_len,List.length_take];omega
    have HCh:=zF (HCH.out _ HB2.out p HPL.out)
    have HU:=HI.out
    have HLt:=HLT.out
    clear c1 x0 x1 HR HB HBb HBd HBk HMe
    generalize hms:movesS s (l.take i)=ms at *
    clear hms
    cases hh:holdsS s (wantS s p) with
    | true =>
     rw [hh] at HCh
     have HE:Aside0 (freeZ s l (i + 1)=freeZ s l i):=⟨by rw [HFz.out,if_pos hh]⟩
     clear hh HFz
     go_wp2_with (first
      | (go_at_call 86;(with_reducible refine HCh.out.mono ?_);rintro e w' ⟨rfl,rfl⟩)
      | ((with_reducible refine gate_builtin (b:=.append) (xs:=#[.tmp 46,.tmp 48]) rfl ?_);at_builtin;refine Kd.R_append k39 (w0:=w) w.heap.size rfl (.tmp 46) (.tmp 48) 29 39 (.agg #[(.int .i64 0),(.int .i64 0),(.int .i64 0)]) 24 rfl Try.underlying29 info39 rfl (by decide) (by omega) _ ms (mvS s p) [.int .i64 z0,.int .i64 z1,.int .i64 (wantS s p)] (fun _=>True) (fun _=>False) rfl rfl (HM1.out _) (fun _ hk=>hk.elim) (fun _ _=>trivial) HR2.out HB2.out HB2.out.size (by omega) ?_;intro v4 w4 ho hb hg hat;have HO4:=zF ho;have HB4:=zF hb;clear ho hb hg hat HR2))
     go_roundg (l.length - (i + 1))
     case measure=>omega
     case rel=>exact ⟨i + 1,by go_num,by rw [HE.out],⟨by omega,rfl⟩,⟨by rw [HMv.out];exact HO4.out⟩,HB4⟩
    | false =>
     rw [hh] at HCh
     have HE:Aside0 (freeZ s l (i + 1)=i):=⟨by rw [HFz.out,if_neg (by rw [hh];decide)]⟩
     clear hh HFz
     go_wp2_with (first
      | (go_at_call 86;(with_reducible refine HCh.out.mono ?_);rintro e w' ⟨rfl,rfl⟩)
      | ((with_reducible refine gate_builtin (b:=.append) (xs:=#[.tmp 46,.tmp 48]) rfl ?_);at_builtin;refine Kd.R_append k39 (w0:=w) w.heap.size rfl (.tmp 46) (.tmp 48) 29 39 (.agg #[(.int .i64 0),(.int .i64 0),(.int .i64 0)]) 24 rfl Try.underlying29 info39 rfl (by decide) (by omega) _ ms (mvS s p) [.int .i64 z0,.int .i64 z1,.int .i64 (wantS s p)] (fun _=>True) (fun _=>False) rfl rfl (HM1.out _) (fun _ hk=>hk.elim) (fun _ _=>trivial) HR2.out HB2.out HB2.out.size (by omega) ?_;intro v4 w4 ho hb hg hat;have HO4:=zF ho;have HB4:=zF hb;clear ho hb hg hat HR2))
     go_roundg (l.length - (i + 1))
     case measure=>omega
     case rel=>exact ⟨i + 1,by go_num,by rw [HE.out],⟨by omega,rfl⟩,⟨by rw [HMv.out];exact HO4.out⟩,HB4⟩
  ·
   obtain rfl:i=l.length:=by omega
   rw [List.take_length] at HR
   have hfz:=freeZ_lt s l l.length
   have hm64:(movesS s l).length=l.length:=movesS_len s l
   obtain ⟨Am,cm,hv4,hlm,hCm⟩:=Kd.R_reads HR.out
   subst hv4
   have HCM:=zF hCm
   have hmv:(movesS s l).length≤64:=by omega
   have HLm:=zF hlm
   have HM64:=zF hm64
   have HGr:=zF (HH.out.kept HB.out)
   have HOld:Aside0 (∀ W,Below w.heap.size w W→Kd.S k47 47 W w0.heap.size (fun k=>True∧k < w.heap.size) vR s.rg):=⟨fun W hb=>Kd.S_old HH.out.rg hb⟩
   have HRlt:Aside0 (∀ k,vR.ownBlock=some k→k < w.heap.size):=⟨Kd.S_lt HH.out.rg⟩
   have HBB:=zF HH.out.below
   clear hCm hlm hm64
   by_cases hf:freeZ s l l.length < 0
   ·
    by_cases h1:1 < l.length
    ·
     have HE:Aside0 (recordS s l=s.rg ++ [⟨false,movesS s l⟩]):=⟨by unfold recordS;rw [if_pos hf,if_pos h1]⟩
     have h1m:1 < (movesS s l).length:=by have:=HM64.out;omega
     have h1d:decide (1 < (movesS s l).length)=true:=decide_eq_true h1m
     have h1i:(1:Int) < ((movesS s l).length:Int):=by omega
     generalize movesS s l=mv at *
     have HS1:Aside0 (Kd.S k47 47 wr w0.heap.size (fun k=>True∧¬ some k=(Value.slice Am mv.length cm).ownBlock) vR s.rg):=⟨Kd.S_mono (HOld.out _ HB.out) (fun k hk=>⟨trivial,fun e=>by have:=own_base HR.out.2.choose_spec.1 k e.symm;have:=hk.2;omega⟩)⟩
     have c7:=HGr.out.c7
     have c7f:=blk_frozen HGr.out.blk 7
     have HGl:=zF HGr.out.lt
     have HRt:=zF (Kd.R_lower (R39_tight HR.out) HBB.out.size)
     have Q1:=zF (k47_mkM wr w0.heap.size _ ⟨false,mv⟩ HRt.out)
     have Q2:Aside0 (∀ k,some k=((Value.slice Am mv.length cm)).ownBlock→True∧some k≠vR.ownBlock):=⟨fun k hk=>⟨trivial,fun e=>by have h1:=HRlt.out k e.symm;have h2:=own_base HR.out.2.choose_spec.1 k hk.symm;omega⟩⟩
     have Q3:Aside0 ((s.rg.length + 1) * 32≤140737488355328):=⟨by have:=HRG.out.1;omega⟩
     go_wp2_with (((with_reducible refine gate_builtin (b:=.append) (xs:=#[.tmp 60,.tmp 63]) rfl ?_);at_builtin;refine Kd.S_append k47 (w0:=w0) w0.heap.size rfl (.tmp 60) (.tmp 63) 30 47 (.agg #[(.bool false),(.slice none 0 0)]) 32 rfl Try.underlying30 info47 rfl (by decide) (by omega) vR s.rg ⟨false,mv⟩ [.bool false,(Value.slice Am mv.length cm)] (fun _=>True) (fun k=>some k=((Value.slice Am mv.length cm)).ownBlock) rfl rfl Q1.out Q2.out (fun _ _=>trivial) HS1.out HGr.out.below HGr.out.below.size Q3.out ?_;intro v8 w8 ho hb hg hat;obtain ⟨A8,cp8,ev8⟩:=Kd.S_slice ho;rw [List.length_append,List.length_singleton] at ev8;subst ev8;have HO8:=zF (HGr.out.putR hg hb ho);have c8:w8.cell? ⟨a.g,7,none⟩=some vR:=(blk_cell ((hg.block a.g HGl.out (Kd.S_ne HGr.out.rg HGr.out.blk (by decide))).trans HGr.out.blk) 7).trans rfl;have f8:w8.frozen? ⟨a.g,7,none⟩=false:=blk_frozen ((hg.block a.g HGl.out (Kd.S_ne HGr.out.rg HGr.out.blk (by decide))).trans HGr.out.blk) 7;clear ho hb hg hat))
     go_end0
     exact ⟨rfl,_,by rw [HE.out];exact HO8.out.1,kept_back HB.out HO8.out.2⟩
    ·
     have HE:Aside0 (recordS s l=s.rg):=⟨by unfold recordS;rw [if_pos hf,if_neg h1]⟩
     have h1m:¬ 1 < (movesS s l).length:=by have:=HM64.out;omega
     have h1d:decide (1 < (movesS s l).length)=false:=decide_eq_false h1m
     have h1i:((movesS s l).length:Int)≤1:=by omega
     generalize movesS s l=mv at *
     go_wp2
     go_end0
     exact ⟨rfl,vR,by rw [HE.out];exact HGr.out,Kept.of_below HB.out _⟩
   ·
    obtain ⟨f,hfq⟩:∃ f:Nat,freeZ s l l.length=f:=⟨(freeZ s l l.length).toNat,by omega⟩
    have HE:Aside0 (recordS s l=putM (chainedM (movesS s l) f) s.rg):=⟨by unfold recordS;rw [if_neg hf,hfq,Int.toNat_natCast]⟩
    have hfl:f < (movesS s l).length:=by have:=HM64.out;omega
    have hf0:(0:Int)≤(f:Int):=by omega
    rw [hfq]
    have HCc:=zF (chained_calls Am cm (movesS s l) f wr HCM.out HLm.out (by omega) hfl)
    have hcl:(chainedM (movesS s l) f).length≤64∧0 < (chainedM (movesS s l) f).length:=by
     unfold chainedM;rw [List.length_append,List.length_reverse,List.length_reverse,List.length_take,List.length_drop];have:=HM64.out;omega
    obtain ⟨hc64,hc0⟩:=hcl
    obtain ⟨AR,cR,evR,lR,_⟩:=Kd.S_reads HH.out.rg
    subst evR
    have hrl:s.rg.length≤100:=by have:=HRG.out.1;omega
    generalize chainedM (movesS s l) f=mv at *
    clear hf hfq hfz
    have c7:=HGr.out.c7
    go_wp2_with (go_at_call 87;(with_reducible refine HCc.out.mono ?_);rintro e w6 ⟨v6,rfl,hr,hb⟩;have HB6:=zF (below_step HB.out hb);have HR6:=zF (Kd.R_lower (R39_tight hr) HB.out.size);have c7b:=pw_cell_below hb c7;obtain ⟨A6,c6,ev6,l6,r6⟩:=Kd.R_reads hr;subst ev6;have HC6:=zF r6;clear hr hb r6)
    clear c7 c7b HGr HR HCM HLm HCc HM64
    have HG6:=zF (HH.out.kept HB6.out)
    go_loopg [9,10,75] s.rg.length (fun gk _ _ v75 w'=>∃ i:Nat,v75 = .int .i64 i∧Aside0 (i≤s.rg.length∧gk=s.rg.length - i)∧Aside0 (putM mv s.rg=s.rg.take i ++ putM mv (s.rg.drop i))∧Aside0 (Below w6.heap.size w6 w'))
    case atStart=>exact ⟨0,rfl,⟨Nat.zero_le _,rfl⟩,⟨by rw [List.take_zero,List.drop_zero];rfl⟩,⟨Below.refl _ _⟩⟩
    case round =>
     obtain ⟨j,rfl,HJ,HP,HBr⟩:=hrel
     have hj:=HJ.out.1
     have HG7:=zF (HG6.out.kept HBr.out)
     have HB7:=zF (below_step HB6.out HBr.out)
     have HR7:=zF (Kd.R_below HR6.out HBr.out)
     have HC7:=zF (Kd.C_below HC6.out HBr.out)
     by_cases hlt2:j < s.rg.length
     ·
      obtain ⟨gR,capR,ev,_,_,cellsR,hgR⟩:=Kd.S_form HG7.out.rg (by omega)
      injection ev with ev1 ev2 ev3
      subst ev1
      subst ev3
      have HgR:=zF hgR
      obtain ⟨oki,cc,hcl,hM,hcc,hfr,hoki,hH⟩:=Kd.S_elem HG7.out.rg z47 (j:Int) (by omega) (by omega)
      have HMem:=zF (rd47_mem hlt2)
      have HRo:=zF (HRG.out.2 _ HMem.out)
      obtain ⟨v1,ec,hR1⟩:=k47_openM hM
      subst ec
      have er:s.rg.getD (j:Int).toNat z47=rd_T47 s.rg (j:Int):=rfl
      rw [er] at hM hR1 hcc hH
      have HSk:=zF (putM_skip mv s.rg j hlt2 HP.out)
      have HPu:=zF (putM_put mv s.rg j hlt2 HP.out)
      generalize rd_T47 s.rg (j:Int)=r at *
      obtain ⟨A1,c1,ev1,l1,C1⟩:=Kd.R_reads hR1
      subst ev1
      have HC1r:=zF C1
      have HR1:=zF hR1
      have HHj:=zF hH
      have HOk:=zF hoki
      have x0:wr.cell? ⟨gR,j * 2,none⟩=some (.bool r.f0):=hcc 0 _ rfl
      have x1:wr.cell? ⟨gR,j * 2 + 1,none⟩=some (.slice A1 r.f1.length c1):=hcc 1 _ rfl
      have hfr1:wr.frozen? ⟨gR,j * 2 + 1,none⟩=false:=hfr 1
      have HX1:=zF (And.intro x1 hfr1)
      have hjl:(j:Int) < (s.rg.length:Int):=by omega
      obtain ⟨hr1,hr2⟩:=HRo.out
      have hrp:0 < r.f1.length:=List.length_pos_iff.2 hr1
      have hr64:r.f1.length≤6400:=by omega
      clear hcl hM hcc hfr hoki hH hR1 C1 hgR er hfr1 hr1 hr2
      go_upto_region 17 with (fail)
      clear x0 x1
      have HBA:Aside0 (Below wr.heap.size wr (wr.alloc (.cells #[.bool r.f0,.slice A1 r.f1.length c1] 47))):=⟨below_alloc (Below.refl _ _) _⟩
      have HBX:=zF (blk_new wr (.cells #[.bool r.f0,.slice A1 r.f1.length c1] 47))
      generalize wr.alloc (.cells #[.bool r.f0,.slice A1 r.f1.length c1] 47)=WA at HBA HBX ⊢
      have b0:WA.cell? ⟨wr.heap.size,0,none⟩=some (.bool r.f0):=(blk_cell HBX.out 0).trans rfl
      have b1:WA.cell? ⟨wr.heap.size,1,none⟩=some (.slice A1 r.f1.length c1):=(blk_cell HBX.out 1).trans rfl
      have HBW:=zF (below_step HBr.out HBA.out)
      cases hb0:r.f0 with
      | false =>
       rw [hb0] at b0
       have HPn:=zF (HSk.out (fun h=>by rw [hb0] at h;exact Bool.noConfusion h.1))
       clear hb0
       go_quiet (fail)
       go_wp2
       go_roundg (s.rg.length - (j + 1))
       case measure=>have:=HJ.out;omega
       case rel=>exact ⟨j + 1,by go_num,⟨by omega,rfl⟩,HPn,⟨pw_below_drewN HBW.out _⟩⟩
      | true =>
       rw [hb0] at b0
       have HB0:=zF hb0
       clear hb0
       obtain ⟨ad1,e1,_,z1,_⟩:=at_T39 (Kd.C_below HC1r.out HBA.out) ((r.f1.length:Int) - 1) (by omega) (by omega)
       obtain ⟨ad6,e6,_,_,z6⟩:=at_T39 (Kd.C_below HC7.out HBA.out) (0:Int) (by omega) (by omega)
       have HLa:Aside0 (lastF r.f1=(rd_T39 r.f1 ((r.f1.length:Int) - 1)).f1):=⟨rfl⟩
       have et:((r.f1.length:Int) - 1).toNat=r.f1.length - 1:=by omega
       have hw1:IntKind.i64.wrap ((r.f1.length:Int) - 1)=(r.f1.length:Int) - 1:=Go.IntWalk.i64_in _ (by omega)
       have hl0:(0:Int)≤(r.f1.length:Int) - 1:=by omega
       have hl1:(r.f1.length:Int) - 1 < (r.f1.length:Int):=by omega
       obtain ⟨g1,k1,ef1,_⟩:=Kd.R_form HR1.out hrp
       obtain ⟨g6,k6,ef6,_⟩:=Kd.R_form HR7.out hc0
       injection ef1 with ef1 _ ef1c
       injection ef6 with ef6 _ ef6c
       subst ef1
       subst ef6
       subst ef1c
       subst ef6c
       cases e1
       cases e6
       have hm0:(0:Int) < (mv.length:Int):=by omega
       rw [et,add_plain] at z1
       rw [show ((0:Int).toNat * 3)=0 from rfl,add_plain] at z6
       simp only [Nat.zero_add] at z6
       generalize (rd_T39 r.f1 ((r.f1.length:Int) - 1)).f1=y1 at *
       generalize (rd_T39 mv 0).f2=y6 at *
       cases hy:(y1 == y6) with
       | false =>
        have HPn:=zF (HSk.out (fun h=>by have h2:=h.2;rw [HLa.out] at h2;rw [h2] at hy;simp at hy))
        go_quiet (fail)
        go_wp2
        go_roundg (s.rg.length - (j + 1))
        case measure=>have:=HJ.out;omega
        case rel=>exact ⟨j + 1,by go_num,⟨by omega,rfl⟩,HPn,⟨pw_below_drewN HBW.out _⟩⟩
       | true =>
        have HPp:=zF (HPu.out ⟨HB0.out,by rw [HLa.out];simpa using hy⟩)
        go_quiet (fail)
        clear z1 z6 hy hw1 hl0 hl1 et hm0
        go_wp2
        go_upto_region 18 with (fail)
        have HBx:Aside0 (Below wr.heap.size wr (WA.drewN nq).drew):=⟨below_drew1 (pw_below_drewN HBA.out _)⟩
        have HS:(WA.drewN nq).drew.cell? ⟨a.g,7,none⟩=some (.slice (some ⟨gR,0,none⟩) s.rg.length cR)∧(WA.drewN nq).drew.cell? ⟨wr.heap.size,1,none⟩=some (.slice (some ⟨g1,0,none⟩) r.f1.length c1):=⟨pw_cell_below HBx.out HG7.out.c7,b1⟩
        have HXb:Aside0 ((WA.drewN nq).drew.heap[wr.heap.size]? = some (.cells #[.bool true,.slice (some ⟨g1,0,none⟩) r.f1.length c1] 47 (0,0))):=⟨by rw [← HB0.out];exact HBX.out⟩
        clear b0 b1 HBX HBA HBW
        refine wp_region_split 9 (fun W=>W.cell? ⟨a.g,7,none⟩=some (.slice (some ⟨gR,0,none⟩) s.rg.length cR)∧W.cell? ⟨wr.heap.size,1,none⟩=some (.slice (some ⟨g1,0,none⟩) r.f1.length c1)) (by kernel_rfl) (by kernel_rfl) ?_
        simp only [List.take_succ_cons,List.take_zero,List.drop_succ_cons,List.drop_zero]
        generalize (WA.drewN nq).drew=wx at HS HBx HXb ⊢
        refine tK (v:=.pointer (some ⟨a.g,0,none⟩)) 0 HS (fun w9 h9=>?hy) ?_
        case hy=>(skip;go_simp)
        try simp only [Act.put,zA,zB,zC]
        refine tK (v:=.pointer (some ⟨a.g,0,none⟩)) 1 HS (fun w9 h9=>?hy) ?_
        case hy=>(skip;go_simp)
        try simp only [Act.put,zA,zB,zC]
        refine tK (v:=.pointer (some ⟨a.g,7,none⟩)) 2 HS (fun w9 h9=>?hy) ?_
        case hy=>(skip;go_simp)
        try simp only [Act.put,zA,zB,zC]
        refine tK (v:=.slice (some ⟨gR,0,none⟩) s.rg.length cR) 3 HS (fun w9 h9=>?hy) ?_
        case hy=>(obtain ⟨y1,y2⟩:=h9;go_simp)
        try simp only [Act.put,zA,zB,zC]
        refine tK (v:=.int .i64 j) 4 HS (fun w9 h9=>?hy) ?_
        case hy=>(skip;go_simp)
        try simp only [Act.put,zA,zB,zC]
        refine tK (v:=.pointer (some ⟨wr.heap.size,1,none⟩)) 5 HS (fun w9 h9=>?hy) ?_
        case hy=>(skip;go_simp)
        try simp only [Act.put,zA,zB,zC]
        refine tK (v:=.slice (some ⟨g1,0,none⟩) r.f1.length c1) 6 HS (fun w9 h9=>?hy) ?_
        case hy=>(obtain ⟨y1,y2⟩:=h9;go_simp)
        try simp only [Act.put,zA,zB,zC]
        refine tK (v:=.slice (some ⟨g6,0,none⟩) mv.length c6) 7 HS (fun w9 h9=>?hy) ?_
        case hy=>(skip;go_simp)
        try simp only [Act.put,zA,zB,zC]
        refine only_held 8 rfl (by kernel_rfl) (fun K hK=>?_)
        have HRx:=zF (Kd.R_below HR1.out HBx.out)
        have HB9:=zF (HG7.out.below.trans (HBx.out.mono HG7.out.below.size))
        have hb9s:=HB9.out.size
        refine Kd.R_append_rows_step k39 (Rr:=k39.K wx) (w0:=w0) w0.heap.size (by rfl) (.tmp 104) (.tmp 105) 29 39 (.agg #[(.int .i64 0),(.int .i64 0),(.int .i64 0)]) 24 (by rfl) Try.underlying29 info39 rfl (by decide) (by omega) (.slice (some ⟨g1,0,none⟩) r.f1.length c1) r.f1 mv (some ⟨g6,0,none⟩) mv.length c6 (fun k=>oki k ∨ True∧wx.heap.size≤k) (fun _=>False) (by rfl) (by rfl) (Kd.R_mono HRx.out (fun k hk=>.inl hk)) (Kd.C_below HC7.out HBx.out) (fun x cs h=>k39_KM _ _ x cs h) (fun _ h=>h.elim) (fun k hk=>.inr ⟨trivial,hk⟩) HB9.out hb9s (by omega) ?_
        intro v2 w2 ho hb hg hat
        obtain ⟨A8,c8,ev8⟩:=Kd.R_slice ho
        rw [List.length_append] at ev8
        subst ev8
        obtain ⟨HM1,HM2,HM3,HM4⟩:=HG7.out.ring_more hlt2 HgR.out HR1.out HHj.out HBx.out hg hb ho
        have HM1:=zF HM1
        have HM2:=zF HM2
        have HS2:w2.cell? ⟨a.g,7,none⟩=some (.slice (some ⟨gR,0,none⟩) s.rg.length cR)∧w2.cell? ⟨wr.heap.size,1,none⟩=some (.slice (some ⟨g1,0,none⟩) r.f1.length c1):=by
         refine ⟨(blk_cell (HM4.trans HG7.out.blk) 7).trans rfl,?_⟩
         have hne:some wr.heap.size≠(Value.slice (some ⟨g1,0,none⟩) r.f1.length c1).ownBlock:=Kd.R_ne HRx.out HXb.out (by decide)
         exact (blk_cell ((hg.block _ (blk_lt HXb.out) hne).trans HXb.out) 1).trans rfl
        have z1:w2.cell? ⟨gR,j * 2 + 1,none⟩=some (.slice (some ⟨g1,0,none⟩) r.f1.length c1):=by rw [← HX1.out.1];simp only [World.cell?,HM3]
        have z2:w2.frozen? ⟨gR,j * 2 + 1,none⟩=false:=by rw [← HX1.out.2];simp only [World.frozen?,HM3]
        have Z1:=zF (And.intro z1 z2)
        clear ho hb hg hat HM3 HM4 z1 z2
        refine hK.out _ _ HS2 ?_
        try simp only [Act.put,zA,zB,zC]
        clear hK K HS HS2
        refine done_held (by kernel_rfl) ?_
        show wpList _ _ _ _ _ _
        have z1:=Z1.out.1
        have z2:=Z1.out.2
        go_wp2
        go_end0
        exact ⟨rfl,_,by rw [HE.out,HPp.out];exact HM1.out,kept_back HB7.out HM2.out⟩
     ·
      obtain rfl:j=s.rg.length:=by omega
      have HPe:=zF (putM_end mv s.rg HP.out)
      have HEr:Aside0 (recordS s l=s.rg ++ [⟨true,mv⟩]):=⟨by rw [HE.out,HPe.out]⟩
      clear HE
      have HE:=HEr
      have HGr:=HG7
      have HS1:Aside0 (Kd.S k47 47 wr w0.heap.size (fun k=>True∧¬ some k=(Value.slice A6 mv.length c6).ownBlock) (Value.slice AR s.rg.length cR) s.rg):=⟨Kd.S_mono (HOld.out _ HB7.out) (fun k hk=>⟨trivial,fun e=>by have:=own_base HR7.out.2.choose_spec.1 k e.symm;have:=hk.2;omega⟩)⟩
      have c7:=HGr.out.c7
      have c7f:=blk_frozen HGr.out.blk 7
      have HGl:=zF HGr.out.lt
      have HRt:=zF (Kd.R_lower (R39_tight HR7.out) HBB.out.size)
      have Q1:=zF (k47_mkM wr w0.heap.size _ ⟨true,mv⟩ HRt.out)
      have Q2:Aside0 (∀ k,some k=((Value.slice A6 mv.length c6)).ownBlock→True∧some k≠(Value.slice AR s.rg.length cR).ownBlock):=⟨fun k hk=>⟨trivial,fun e=>by have h1:=HRlt.out k e.symm;have h2:=own_base HR7.out.2.choose_spec.1 k hk.symm;omega⟩⟩
      have Q3:Aside0 ((s.rg.length + 1) * 32≤140737488355328):=⟨by have:=HRG.out.1;omega⟩
      go_wp2_with (((with_reducible refine gate_builtin (b:=.append) (xs:=#[.tmp 114,.tmp 117]) rfl ?_);at_builtin;refine Kd.S_append k47 (w0:=w0) w0.heap.size rfl (.tmp 114) (.tmp 117) 30 47 (.agg #[(.bool false),(.slice none 0 0)]) 32 rfl Try.underlying30 info47 rfl (by decide) (by omega) (Value.slice AR s.rg.length cR) s.rg ⟨true,mv⟩ [.bool true,(Value.slice A6 mv.length c6)] (fun _=>True) (fun k=>some k=((Value.slice A6 mv.length c6)).ownBlock) rfl rfl Q1.out Q2.out (fun _ _=>trivial) HS1.out HGr.out.below HGr.out.below.size Q3.out ?_;intro v8 w8 ho hb hg hat;obtain ⟨A8,cp8,ev8⟩:=Kd.S_slice ho;rw [List.length_append,List.length_singleton] at ev8;subst ev8;have HO8:=zF (HGr.out.putR hg hb ho);have c8:w8.cell? ⟨a.g,7,none⟩=some (Value.slice AR s.rg.length cR):=(blk_cell ((hg.block a.g HGl.out (Kd.S_ne HGr.out.rg HGr.out.blk (by decide))).trans HGr.out.blk) 7).trans rfl;have f8:w8.frozen? ⟨a.g,7,none⟩=false:=blk_frozen ((hg.block a.g HGl.out (Kd.S_ne HGr.out.rg HGr.out.blk (by decide))).trans HGr.out.blk) 7;clear ho hb hg hat))
      go_end0
      exact ⟨rfl,_,by rw [HE.out];exact HO8.out.1,kept_back HB7.out HO8.out.2⟩
end Go.Proofs.Ytjgnkhfgmpaljaa.P
namespace Go.Proofs.Ytjgnkhfgmpaljaa.P
open Go.RowKit Go.Proofs.YtjgnkhfgmpaljaaW.PrintWords Go.Proofs.YtjgnkhfgmpaljaaW.PrintLast Go.Proofs.YtjgnkhfgmpaljaaW.PrintMore Go.Proofs.Ytjgnkhfgmpaljaa.M
set_option linter.unusedVariables false
set_option linter.unusedSimpArgs false
section
variable {P:Program} {md:Region.Mode} {Q:Exit→Act→World→Prop} {S:World→Prop}
/-- Number i first, where its guard bars it. -/
theorem skip_held {l:List Oper} (i:Nat) {oi:Oper} {fuel:Nat} {listed:Array Bool} {a:Act} {w:World} (hi:l[i]? = some oi)
  (hs:Region.noSelect l.toArray=true) (hf:Region.free md l.toArray listed i=true) (hr:(Region.ready md l.toArray listed).contains i=true)
  (hQ:∀ c a w,Q (.panic c) (a.put oi.dst undef) w→Q (.panic c) a w) (hw:Region.wanted oi (yielded l.toArray a.tmps)=false) (hS:S w)
  (h:wpAnyH P md l.toArray Q S fuel (listed.setIfInBounds i true) (a.put oi.dst undef) w):wpAnyH P md l.toArray Q S (fuel + 1) listed a w :=
 wpAnyH_take (by simpa using hi) hs hf hr hQ (.inr ⟨hw,rfl⟩) hS h
end
def goneL (s:GS):Nat→List Bool
 | 0=>s.gone
 | i + 1=>(goneL s i).set i (s.gone.getD i false || decide (wantS s (i:Int)=0))
def leaveS (s:GS):GS:={ s with gone:=goneL s s.gone.length }
theorem goneL_len (s:GS):∀ i,(goneL s i).length=s.gone.length
 | 0=>rfl
 | i + 1=>by unfold goneL;rw [List.length_set,goneL_len s i]
theorem goneL_get (s:GS):∀ i j,j < s.gone.length→(goneL s i).getD j false=if j < i then (s.gone.getD j false || decide (wantS s (j:Int)=0)) else s.gone.getD j false
 | 0,j,_=>by rw [if_neg (by omega)];rfl
 | i + 1,j,hj=>by
  have ih:=goneL_get s i j hj
  have hl:=goneL_len s i
  unfold goneL
  rw [List.getD_eq_getElem?_getD,List.getElem?_set] 
  by_cases e:i=j
  ·
   subst e
   rw [if_pos rfl,if_pos (by omega),if_pos (by omega)];rfl
  ·
   rw [if_neg e,← List.getD_eq_getElem?_getD,ih]
   by_cases h:j < i
   ·
    rw [if_pos h,if_pos (by omega)]
   ·
    rw [if_neg h,if_neg (by omega)]
theorem ok_gone {s:GS} (ok:GOk s) {g:List Bool} (hg:g.length=s.gone.length):GOk { s with gone:=g } :=
 ⟨ok.n,ok.wn,ok.ord,ok.ordn,hg.trans ok.gone,ok.tos,ok.ten⟩
/-- A party's mark is set. -/
theorem GAt.gone_put {w0 W:World} {a:GA} {s:GS} {vR:Value} {bG cG i n:Nat} (h:GAt w0 W a s vR) (hv:a.vG = .slice (some ⟨bG,0,none⟩) n cG) (hi:i < n) (b:Bool) :
  GAt w0 (W.setCell ⟨bG,i,none⟩ (.bool b)) a { s with gone:=s.gone.set i b } vR:=by
 have hR:=h.gone
 rw [hv] at hR
 have hbG:(Value.slice (some ⟨bG,0,none⟩) n cG).ownBlock=some bG:=by simp [Value.ownBlock]
 obtain ⟨cells,hc⟩:=own_typed hR.2.choose_spec.1 bG hbG
 have hbase:=own_base hR.2.choose_spec.1 bG hbG
 have hput:Kd.R Kd.bool 4 (W.setCell ⟨bG,i,none⟩ (.bool b)) w0.heap.size (fun _=>True) (.slice (some ⟨bG,0,none⟩) n cG) (s.gone.set i b):=by
  have:=Kd.R_putn hR (i:Int) b
  rwa [Int.toNat_natCast] at this
 have hng:a.g≠bG:=blk_ne h.blk hc (by decide)
 refine ⟨h.below.setCell hbase _,blk_far h.blk hng _,h.gb,h.tb,h.kb,h.par,h.parc,h.ord,h.ordc,?_,?_,?_,Kd.R_set h.tos hc (by decide) _ _,Kd.S_set h.rg hc (by decide) _ _,h.ne⟩
 ·
  obtain ⟨m,hm⟩:=h.ten
  refine ⟨m,hm.setCell (fun e=>?_) _⟩
  obtain ⟨es,cl,hb,_⟩:=hm
  have e:a.bt=bG:=e
  rw [e,hc] at hb;cases hb
 ·
  show Kd.R Kd.bool 4 _ _ _ a.vG _
  rw [hv];exact hput
 ·
  obtain ⟨m,hm⟩:=h.tak
  refine ⟨m,hm.setCell (fun e=>?_) _⟩
  obtain ⟨es,cl,hb,_⟩:=hm
  have e:a.bk=bG:=e
  rw [e,hc] at hb;cases hb
def NilPost (w0:World) (a:GA) (s':GS) (e:Ending) (w':World):Prop:=e = .returned (.tuple #[])∧∃ v:Value,GAt w0 w' a s' v
set_option maxHeartbeats 16000000 in
set_option maxRecDepth 100000 in
theorem leave_calls {w0 w:World} {a:GA} {s:GS} {vR:Value} (h:GAt w0 w a s vR) (ok:GOk s) :
  Calls Try.prog 44 #[.pointer (some ⟨a.g,0,none⟩)] w (NilPost w0 a (leaveS s)):=by
 have HH:=zF h
 have HOK:=zF ok
 have hn:=ok.n
 have hgl:=ok.gone
 have c4:=h.c4
 obtain ⟨AG,cG,eG,lG,rG⟩:=h.goneC
 have HEG:=zF eG
 rw [eG] at c4
 have hgn:s.gone.length≤64:=by omega
 have HGL:=zF hgl
 have HC4:=zF c4
 clear h ok eG hgl rG
 go_enter Try.func44,Try.ntmps44
 go_wp2
 clear c4
 go_loopg [2,8] s.gone.length (fun gk _ v8 w'=>∃ i:Nat,v8 = .int .i64 i∧Aside0 (i≤s.gone.length∧gk=s.gone.length - i)∧Aside0 (GAt w0 w' a { s with gone:=goneL s i } vR))
 case atStart=>exact ⟨0,rfl,⟨Nat.zero_le _,rfl⟩,HH⟩
 case round =>
  obtain ⟨i,rfl,HI,HG⟩:=hrel
  have hi:=HI.out.1
  by_cases hlt:i < s.gone.length
  ·
   have hR:=HG.out.gone
   rw [HEG.out] at hR
   obtain ⟨bG,cG',ef,_⟩:=Kd.R_form hR (by show 0 < (goneL s i).length;rw [goneL_len];omega)
   injection ef with ef1 ef2 ef3
   subst ef1
   have hhc:wr.cell? ⟨bG,i,none⟩=some (.bool (s.gone.getD i false)):=by
    obtain ⟨A',c',e',_,hC⟩:=Kd.R_reads hR
    injection e' with e1 _ _
    subst e1
    obtain ⟨ad,e2,y⟩:=boolC_at hC (i:=i) (by show i < (goneL s i).length;rw [goneL_len];exact hlt)
    cases e2
    rw [add_plain] at y
    rw [y]
    show some (Value.bool ((goneL s i).getD i false))=_
    rw [goneL_get s i i hlt,if_neg (by omega)]
   have hfr:wr.frozen? ⟨bG,i,none⟩=false:=by
    obtain ⟨cells,hc⟩:=own_typed hR.2.choose_spec.1 bG (by simp [Value.ownBlock])
    exact blk_frozen hc i
   have hng:a.g≠bG:=by
    obtain ⟨cells,hc⟩:=own_typed hR.2.choose_spec.1 bG (by simp [Value.ownBlock])
    exact blk_ne HG.out.blk hc (by decide)
   have HNG:=zF hng
   have HX:=zF (And.intro hhc hfr)
   have HPL:Aside0 (i < s.P.length):=⟨by have:=HGL.out;omega⟩
   have HWC:=zF (fun (W:World) (hb:Below wr.heap.size wr W)=>want_calls (s:={ s with gone:=goneL s i }) (HG.out.kept hb) (ok_gone HOK.out (goneL_len s i)) i HPL.out)
   have c4:wr.cell? ⟨a.g,4,none⟩=some (.slice (some ⟨bG,0,none⟩) s.gone.length cG):=by rw [← HEG.out];exact HG.out.c4
   have HC4r:=zF c4
   have hil:(i:Int) < (s.gone.length:Int):=by omega
   have hi0:(0:Int)≤(i:Int):=by omega
   have HPut:=zF (fun (W:World) (hb:Below wr.heap.size wr W) (b:Bool)=>(HG.out.kept hb).gone_put HEG.out hlt b)
   have HLT:=zF hlt
   have hws:wantS { s with gone:=goneL s i } (i:Int)=wantS s (i:Int):=rfl
   rw [hws] at HWC
   have HSt:Aside0 (goneL s (i + 1)=(goneL s i).set i (s.gone.getD i false || decide (wantS s (i:Int)=0))):=⟨rfl⟩
   clear hR hng ef2 ef3 hws hhc hfr c4
   go_upto_region 3 with (fail)
   generalize wantS s (i:Int)=z at *
   generalize s.gone.getD i false=b at *
   cases b with
   | true =>
    refine wp_region_any (by kernel_rfl) ?_
    refine wpAny_of_held (S:=fun W=>W.cell? ⟨a.g,4,none⟩=some (.slice (some ⟨bG,0,none⟩) s.gone.length cG)) _ _ _ _ ?_
    show wpAnyH _ _ _ _ _ 20 (Array.replicate 20 false) _ wr.drew
    have HBx:Aside0 (Below wr.heap.size wr wr.drew):=⟨below_drew (Below.refl _ _)⟩
    have HS:=pw_cell_below HBx.out HC4r.out
    have hhc:=pw_cell_below HBx.out HX.out.1
    have hfr:wr.drew.frozen? ⟨bG,i,none⟩=false:=HX.out.2
    generalize wr.drew=wx at HS HBx hhc hfr ⊢
    refine tK (v:=.pointer (some ⟨a.g,0,none⟩)) 0 HS (fun w9 h9=>?hy) ?_
    case hy=>(skip;go_simp)
    try simp only [Act.put,zA,zB,zC]
    refine tK (v:=.pointer (some ⟨a.g,0,none⟩)) 1 HS (fun w9 h9=>?hy) ?_
    case hy=>(skip;go_simp)
    try simp only [Act.put,zA,zB,zC]
    refine tK (v:=.pointer (some ⟨a.g,4,none⟩)) 2 HS (fun w9 h9=>?hy) ?_
    case hy=>(skip;go_simp)
    try simp only [Act.put,zA,zB,zC]
    refine tK (v:=.slice (some ⟨bG,0,none⟩) s.gone.length cG) 3 HS (fun w9 h9=>?hy) ?_
    case hy=>(have y1:=h9;go_simp)
    try simp only [Act.put,zA,zB,zC]
    refine tK (v:=.int .i64 i) 4 HS (fun w9 h9=>?hy) ?_
    case hy=>(skip;go_simp)
    try simp only [Act.put,zA,zB,zC]
    refine tK (v:=.pointer (some ⟨a.g,0,none⟩)) 5 HS (fun w9 h9=>?hy) ?_
    case hy=>(skip;go_simp)
    try simp only [Act.put,zA,zB,zC]
    refine tK (v:=.pointer (some ⟨a.g,0,none⟩)) 6 HS (fun w9 h9=>?hy) ?_
    case hy=>(skip;go_simp)
    try simp only [Act.put,zA,zB,zC]
    refine tK (v:=.pointer (some ⟨a.g,4,none⟩)) 7 HS (fun w9 h9=>?hy) ?_
    case hy=>(skip;go_simp)
    try simp only [Act.put,zA,zB,zC]
    refine tK (v:=.slice (some ⟨bG,0,none⟩) s.gone.length cG) 8 HS (fun w9 h9=>?hy) ?_
    case hy=>(have y1:=h9;go_simp)
    try simp only [Act.put,zA,zB,zC]
    refine tK (v:=.int .i64 i) 9 HS (fun w9 h9=>?hy) ?_
    case hy=>(skip;go_simp)
    try simp only [Act.put,zA,zB,zC]
    refine tK (v:=.pointer (some ⟨bG,i,none⟩)) 10 HS (fun w9 h9=>?hy) ?_
    case hy=>(skip;go_simp)
    try simp only [Act.put,zA,zB,zC]
    refine only_held 11 rfl (by kernel_rfl) (fun K hK=>?_)
    rw [if_pos (by rfl)]
    go_simp
    refine hK.out _ _ HS ?_
    try simp only [Act.put,zA,zB,zC]
    clear hK K
    refine tK (v:=.bool true) 12 HS (fun w9 h9=>?hy) ?_
    case hy=>(skip;go_simp)
    try simp only [Act.put,zA,zB,zC]
    refine skip_held 13 rfl (by kernel_rfl) (by kernel_rfl) (by kernel_rfl) (fun _ _ _ h=>h) (by rfl) HS ?_
    try simp only [Act.put,zA,zB,zC]
    refine skip_held 14 rfl (by kernel_rfl) (by kernel_rfl) (by kernel_rfl) (fun _ _ _ h=>h) (by rfl) HS ?_
    try simp only [Act.put,zA,zB,zC]
    refine skip_held 15 rfl (by kernel_rfl) (by kernel_rfl) (by kernel_rfl) (fun _ _ _ h=>h) (by rfl) HS ?_
    try simp only [Act.put,zA,zB,zC]
    refine skip_held 16 rfl (by kernel_rfl) (by kernel_rfl) (by kernel_rfl) (fun _ _ _ h=>h) (by rfl) HS ?_
    try simp only [Act.put,zA,zB,zC]
    refine tK (v:=.bool true) 17 HS (fun w9 h9=>?hy) ?_
    case hy=>(skip;go_simp)
    try simp only [Act.put,zA,zB,zC]
    refine tK (v:=.pointer (some ⟨bG,i,none⟩)) 18 HS (fun w9 h9=>?hy) ?_
    case hy=>(skip;go_simp)
    try simp only [Act.put,zA,zB,zC]
    refine only_held 19 rfl (by kernel_rfl) (fun K hK=>?_)
    rw [if_pos (by rfl)]
    go_simp
    have HS2:(wx.setCell ⟨bG,i,none⟩ (.bool true)).cell? ⟨a.g,4,none⟩=some (.slice (some ⟨bG,0,none⟩) s.gone.length cG):=(World.cell?_setCell_far _ _ _ _ (Ne.symm HNG.out)).trans HS
    refine hK.out _ _ HS2 ?_
    try simp only [Act.put,zA,zB,zC]
    clear hK K HS HS2
    refine done_held (by kernel_rfl) ?_
    have HG2:=zF (HPut.out _ HBx.out true)
    have HU:=HI.out
    have HL2:=HLT.out
    go_wp2
    go_roundg (s.gone.length - (i + 1))
    case measure=>omega
    case rel=>exact ⟨i + 1,by go_num,⟨by omega,rfl⟩,⟨by rw [HSt.out];first|exact HG2.out|(rw [hz,Bool.false_or];exact HG2.out)⟩⟩
   | false =>
    cases hz:decide (z=0) with
    | true =>
     refine wp_region_any (by kernel_rfl) ?_
     refine wpAny_of_held (S:=fun W=>W.cell? ⟨a.g,4,none⟩=some (.slice (some ⟨bG,0,none⟩) s.gone.length cG)) _ _ _ _ ?_
     show wpAnyH _ _ _ _ _ 20 (Array.replicate 20 false) _ wr.drew
     have HBx:Aside0 (Below wr.heap.size wr wr.drew):=⟨below_drew (Below.refl _ _)⟩
     have HS:=pw_cell_below HBx.out HC4r.out
     have hhc:=pw_cell_below HBx.out HX.out.1
     have hfr:wr.drew.frozen? ⟨bG,i,none⟩=false:=HX.out.2
     generalize wr.drew=wx at HS HBx hhc hfr ⊢
     refine tK (v:=.pointer (some ⟨a.g,0,none⟩)) 0 HS (fun w9 h9=>?hy) ?_
     case hy=>(skip;go_simp)
     try simp only [Act.put,zA,zB,zC]
     refine tK (v:=.pointer (some ⟨a.g,0,none⟩)) 1 HS (fun w9 h9=>?hy) ?_
     case hy=>(skip;go_simp)
     try simp only [Act.put,zA,zB,zC]
     refine tK (v:=.pointer (some ⟨a.g,4,none⟩)) 2 HS (fun w9 h9=>?hy) ?_
     case hy=>(skip;go_simp)
     try simp only [Act.put,zA,zB,zC]
     refine tK (v:=.slice (some ⟨bG,0,none⟩) s.gone.length cG) 3 HS (fun w9 h9=>?hy) ?_
     case hy=>(have y1:=h9;go_simp)
     try simp only [Act.put,zA,zB,zC]
     refine tK (v:=.int .i64 i) 4 HS (fun w9 h9=>?hy) ?_
     case hy=>(skip;go_simp)
     try simp only [Act.put,zA,zB,zC]
     refine tK (v:=.pointer (some ⟨a.g,0,none⟩)) 5 HS (fun w9 h9=>?hy) ?_
     case hy=>(skip;go_simp)
     try simp only [Act.put,zA,zB,zC]
     refine tK (v:=.pointer (some ⟨a.g,0,none⟩)) 6 HS (fun w9 h9=>?hy) ?_
     case hy=>(skip;go_simp)
     try simp only [Act.put,zA,zB,zC]
     refine tK (v:=.pointer (some ⟨a.g,4,none⟩)) 7 HS (fun w9 h9=>?hy) ?_
     case hy=>(skip;go_simp)
     try simp only [Act.put,zA,zB,zC]
     refine tK (v:=.slice (some ⟨bG,0,none⟩) s.gone.length cG) 8 HS (fun w9 h9=>?hy) ?_
     case hy=>(have y1:=h9;go_simp)
     try simp only [Act.put,zA,zB,zC]
     refine tK (v:=.int .i64 i) 9 HS (fun w9 h9=>?hy) ?_
     case hy=>(skip;go_simp)
     try simp only [Act.put,zA,zB,zC]
     refine tK (v:=.pointer (some ⟨bG,i,none⟩)) 10 HS (fun w9 h9=>?hy) ?_
     case hy=>(skip;go_simp)
     try simp only [Act.put,zA,zB,zC]
     refine only_held 11 rfl (by kernel_rfl) (fun K hK=>?_)
     rw [if_pos (by rfl)]
     go_simp
     refine hK.out _ _ HS ?_
     try simp only [Act.put,zA,zB,zC]
     clear hK K
     refine tK (v:=.bool false) 12 HS (fun w9 h9=>?hy) ?_
     case hy=>(skip;go_simp)
     try simp only [Act.put,zA,zB,zC]
     refine tK (v:=.pointer (some ⟨a.g,0,none⟩)) 13 HS (fun w9 h9=>?hy) ?_
     case hy=>(skip;go_simp)
     try simp only [Act.put,zA,zB,zC]
     refine tK (v:=.int .i64 i) 14 HS (fun w9 h9=>?hy) ?_
     case hy=>(skip;go_simp)
     try simp only [Act.put,zA,zB,zC]
     refine only_held 15 rfl (by kernel_rfl) (fun K hK=>?_)
     rw [if_pos (by rfl)]
     go_simp
     go_at_call 72
     (with_reducible refine (HWC.out _ HBx.out).mono ?_)
     rintro e w3 ⟨rfl,hb⟩
     replace HS:=pw_cell_below hb HS
     have hhw:=hhc
     replace hhc:=pw_cell_below hb hhc
     have hfr3:w3.frozen? ⟨bG,i,none⟩=false:=(hb.frozen (p:=⟨bG,i,none⟩) (World.block_lt_of_cell? _ _ hhw)).trans hfr
     replace HBx:=zF (below_step HBx.out hb)
     clear hb
     refine hK.out _ _ HS ?_
     try simp only [Act.put,zA,zB,zC]
     clear hK K
     have hzb:(z == 0)=true:=by simpa using hz
     have hzd:=hz
     refine tK (v:=.bool true) 16 HS (fun w9 h9=>?hy) ?_
     case hy=>(skip;go_simp)
     try simp only [Act.put,zA,zB,zC]
     refine tK (v:=.bool true) 17 HS (fun w9 h9=>?hy) ?_
     case hy=>(skip;go_simp)
     try simp only [Act.put,zA,zB,zC]
     refine tK (v:=.pointer (some ⟨bG,i,none⟩)) 18 HS (fun w9 h9=>?hy) ?_
     case hy=>(skip;go_simp)
     try simp only [Act.put,zA,zB,zC]
     refine only_held 19 rfl (by kernel_rfl) (fun K hK=>?_)
     rw [if_pos (by rfl)]
     go_simp
     have HS2:(w3.setCell ⟨bG,i,none⟩ (.bool true)).cell? ⟨a.g,4,none⟩=some (.slice (some ⟨bG,0,none⟩) s.gone.length cG):=(World.cell?_setCell_far _ _ _ _ (Ne.symm HNG.out)).trans HS
     refine hK.out _ _ HS2 ?_
     try simp only [Act.put,zA,zB,zC]
     clear hK K HS HS2
     refine done_held (by kernel_rfl) ?_
     have HG2:=zF (HPut.out _ HBx.out true)
     have HU:=HI.out
     have HL2:=HLT.out
     go_wp2
     go_roundg (s.gone.length - (i + 1))
     case measure=>omega
     case rel=>exact ⟨i + 1,by go_num,⟨by omega,rfl⟩,⟨by rw [HSt.out];first|exact HG2.out|(rw [hz,Bool.false_or];exact HG2.out)⟩⟩
    | false =>
     refine wp_region_any (by kernel_rfl) ?_
     refine wpAny_of_held (S:=fun W=>W.cell? ⟨a.g,4,none⟩=some (.slice (some ⟨bG,0,none⟩) s.gone.length cG)) _ _ _ _ ?_
     show wpAnyH _ _ _ _ _ 20 (Array.replicate 20 false) _ wr.drew
     have HBx:Aside0 (Below wr.heap.size wr wr.drew):=⟨below_drew (Below.refl _ _)⟩
     have HS:=pw_cell_below HBx.out HC4r.out
     have hhc:=pw_cell_below HBx.out HX.out.1
     have hfr:wr.drew.frozen? ⟨bG,i,none⟩=false:=HX.out.2
     generalize wr.drew=wx at HS HBx hhc hfr ⊢
     refine tK (v:=.pointer (some ⟨a.g,0,none⟩)) 0 HS (fun w9 h9=>?hy) ?_
     case hy=>(skip;go_simp)
     try simp only [Act.put,zA,zB,zC]
     refine tK (v:=.pointer (some ⟨a.g,0,none⟩)) 1 HS (fun w9 h9=>?hy) ?_
     case hy=>(skip;go_simp)
     try simp only [Act.put,zA,zB,zC]
     refine tK (v:=.pointer (some ⟨a.g,4,none⟩)) 2 HS (fun w9 h9=>?hy) ?_
     case hy=>(skip;go_simp)
     try simp only [Act.put,zA,zB,zC]
     refine tK (v:=.slice (some ⟨bG,0,none⟩) s.gone.length cG) 3 HS (fun w9 h9=>?hy) ?_
     case hy=>(have y1:=h9;go_simp)
     try simp only [Act.put,zA,zB,zC]
     refine tK (v:=.int .i64 i) 4 HS (fun w9 h9=>?hy) ?_
     case hy=>(skip;go_simp)
     try simp only [Act.put,zA,zB,zC]
     refine tK (v:=.pointer (some ⟨a.g,0,none⟩)) 5 HS (fun w9 h9=>?hy) ?_
     case hy=>(skip;go_simp)
     try simp only [Act.put,zA,zB,zC]
     refine tK (v:=.pointer (some ⟨a.g,0,none⟩)) 6 HS (fun w9 h9=>?hy) ?_
     case hy=>(skip;go_simp)
     try simp only [Act.put,zA,zB,zC]
     refine tK (v:=.pointer (some ⟨a.g,4,none⟩)) 7 HS (fun w9 h9=>?hy) ?_
     case hy=>(skip;go_simp)
     try simp only [Act.put,zA,zB,zC]
     refine tK (v:=.slice (some ⟨bG,0,none⟩) s.gone.length cG) 8 HS (fun w9 h9=>?hy) ?_
     case hy=>(have y1:=h9;go_simp)
     try simp only [Act.put,zA,zB,zC]
     refine tK (v:=.int .i64 i) 9 HS (fun w9 h9=>?hy) ?_
     case hy=>(skip;go_simp)
     try simp only [Act.put,zA,zB,zC]
     refine tK (v:=.pointer (some ⟨bG,i,none⟩)) 10 HS (fun w9 h9=>?hy) ?_
     case hy=>(skip;go_simp)
     try simp only [Act.put,zA,zB,zC]
     refine only_held 11 rfl (by kernel_rfl) (fun K hK=>?_)
     rw [if_pos (by rfl)]
     go_simp
     refine hK.out _ _ HS ?_
     try simp only [Act.put,zA,zB,zC]
     clear hK K
     refine tK (v:=.bool false) 12 HS (fun w9 h9=>?hy) ?_
     case hy=>(skip;go_simp)
     try simp only [Act.put,zA,zB,zC]
     refine tK (v:=.pointer (some ⟨a.g,0,none⟩)) 13 HS (fun w9 h9=>?hy) ?_
     case hy=>(skip;go_simp)
     try simp only [Act.put,zA,zB,zC]
     refine tK (v:=.int .i64 i) 14 HS (fun w9 h9=>?hy) ?_
     case hy=>(skip;go_simp)
     try simp only [Act.put,zA,zB,zC]
     refine only_held 15 rfl (by kernel_rfl) (fun K hK=>?_)
     rw [if_pos (by rfl)]
     go_simp
     go_at_call 72
     (with_reducible refine (HWC.out _ HBx.out).mono ?_)
     rintro e w3 ⟨rfl,hb⟩
     replace HS:=pw_cell_below hb HS
     have hhw:=hhc
     replace hhc:=pw_cell_below hb hhc
     have hfr3:w3.frozen? ⟨bG,i,none⟩=false:=(hb.frozen (p:=⟨bG,i,none⟩) (World.block_lt_of_cell? _ _ hhw)).trans hfr
     replace HBx:=zF (below_step HBx.out hb)
     clear hb
     refine hK.out _ _ HS ?_
     try simp only [Act.put,zA,zB,zC]
     clear hK K
     have hzb:(z == 0)=false:=by simpa using hz
     have hzd:=hz
     refine tK (v:=.bool false) 16 HS (fun w9 h9=>?hy) ?_
     case hy=>(skip;go_simp)
     try simp only [Act.put,zA,zB,zC]
     refine tK (v:=.bool false) 17 HS (fun w9 h9=>?hy) ?_
     case hy=>(skip;go_simp)
     try simp only [Act.put,zA,zB,zC]
     refine tK (v:=.pointer (some ⟨bG,i,none⟩)) 18 HS (fun w9 h9=>?hy) ?_
     case hy=>(skip;go_simp)
     try simp only [Act.put,zA,zB,zC]
     refine only_held 19 rfl (by kernel_rfl) (fun K hK=>?_)
     rw [if_pos (by rfl)]
     go_simp
     have HS2:(w3.setCell ⟨bG,i,none⟩ (.bool false)).cell? ⟨a.g,4,none⟩=some (.slice (some ⟨bG,0,none⟩) s.gone.length cG):=(World.cell?_setCell_far _ _ _ _ (Ne.symm HNG.out)).trans HS
     refine hK.out _ _ HS2 ?_
     try simp only [Act.put,zA,zB,zC]
     clear hK K HS HS2
     refine done_held (by kernel_rfl) ?_
     have HG2:=zF (HPut.out _ HBx.out false)
     have HU:=HI.out
     have HL2:=HLT.out
     go_wp2
     go_roundg (s.gone.length - (i + 1))
     case measure=>omega
     case rel=>exact ⟨i + 1,by go_num,⟨by omega,rfl⟩,⟨by rw [HSt.out];first|exact HG2.out|(rw [hz,Bool.false_or];exact HG2.out)⟩⟩
  ·
   obtain rfl:i=s.gone.length:=by omega
   go_wp2
   go_end0
   exact ⟨rfl,vR,HG.out⟩
end Go.Proofs.Ytjgnkhfgmpaljaa.P
namespace Go.Proofs.Ytjgnkhfgmpaljaa.P
open Go.RowKit Go.Proofs.YtjgnkhfgmpaljaaW.PrintWords Go.Proofs.YtjgnkhfgmpaljaaW.PrintLast Go.Proofs.YtjgnkhfgmpaljaaW.PrintMore Go.Proofs.Ytjgnkhfgmpaljaa.M
set_option linter.unusedVariables false
set_option linter.unusedSimpArgs false
def flatB (last:Int) (f:S53):Bool:=!(decide (f.f0≤last) || decide (f.f0 > 64) || decide (f.f1 < 1) || decide (f.f1 > 10))
def flatsB:Int→List S53→Bool
 | _,[]=>true
 | last,f :: l=>flatB last f && flatsB f.f0 l
def roomsF (l:List S53):Int→Option Int:=fun j=>(l.find? fun f=>decide (f.f0=j)).map fun f=>f.f1
def lastId (l:List S53):Nat→Int
 | 0=>0
 | i + 1=>(rd_T53 l (i:Int)).f0
theorem rd53_get {l:List S53} {i:Nat} (h:i < l.length):rd_T53 l (i:Int)=l[i]:=by
 unfold rd_T53
 rw [Int.toNat_natCast,List.getD_eq_getElem?_getD,List.getElem?_eq_getElem h];rfl
theorem flatsB_step {l:List S53} {i:Nat} (h:i < l.length) (last:Int):flatsB last (l.drop i)=(flatB last (rd_T53 l (i:Int)) && flatsB (rd_T53 l (i:Int)).f0 (l.drop (i + 1))):=by
 rw [List.drop_eq_getElem_cons h,rd53_get h];rfl
/-- Those ahead have lesser numbers. -/
def Rise (l:List S53) (i:Nat):Prop:=(∀ f ∈ l.take i,f.f0≤lastId l i)∧(0≤lastId l i)
theorem rise_step {l:List S53} {i:Nat} (h:i < l.length) (hr:Rise l i) (hb:flatB (lastId l i) (rd_T53 l (i:Int))=true):Rise l (i + 1):=by
 unfold flatB at hb
 simp only [Bool.not_eq_true',Bool.or_eq_false_iff,decide_eq_false_iff_not] at hb
 refine ⟨fun f hf=>?_,?_⟩
 ·
  rw [List.take_succ_eq_append_getElem h,List.mem_append,List.mem_singleton] at hf
  show f.f0≤(rd_T53 l (i:Int)).f0
  rcases hf with hf|hf
  ·
   have:=hr.1 f hf;omega
  ·
   rw [hf,rd53_get h];omega
 ·
  show 0≤(rd_T53 l (i:Int)).f0
  have:=hr.2;omega
theorem rooms_step {l:List S53} {i:Nat} (h:i < l.length) (hr:Rise l i) (hb:flatB (lastId l i) (rd_T53 l (i:Int))=true) :
  (fun j=>if j=(rd_T53 l (i:Int)).f0 then some (rd_T53 l (i:Int)).f1 else roomsF (l.take i) j)=roomsF (l.take (i + 1)):=by
 funext j
 rw [List.take_succ_eq_append_getElem h,← rd53_get h]
 unfold roomsF
 rw [List.find?_append]
 have hno:(l.take i).find? (fun f=>decide (f.f0=(rd_T53 l (i:Int)).f0))=none:=by
  rw [List.find?_eq_none]
  intro f hf
  unfold flatB at hb
  simp only [Bool.not_eq_true',Bool.or_eq_false_iff,decide_eq_false_iff_not] at hb
  have:=hr.1 f hf
  simp only [decide_eq_true_eq];omega
 by_cases hj:j=(rd_T53 l (i:Int)).f0
 ·
  subst hj
  rw [if_pos rfl,hno];simp
 ·
  rw [if_neg hj]
  have:([rd_T53 l (i:Int)].find? fun f=>decide (f.f0=j))=none:=by
   rw [List.find?_eq_none];intro s hs;rw [List.mem_singleton] at hs;subst hs
   simp only [decide_eq_true_eq];exact fun e=>hj e.symm
  rw [this];simp
def FlatPost (w:World) (l:List S53) (e:Ending) (w':World):Prop :=
 (flatsB 0 l=true∧∃ b n,e = .returned (.tuple #[.map (some b),.bool true])∧w.heap.size≤b∧MapAt w' Try.prog 3 b (intF (Value.int .i64) (roomsF l)) n∧Below w.heap.size w w') ∨
 (flatsB 0 l=false∧e = .returned (.tuple #[.map none,.bool false])∧Below w.heap.size w w')
set_option maxHeartbeats 16000000 in
set_option maxRecDepth 100000 in
theorem flats_calls (A0:Option Addr) (c0:Nat) (l:List S53) (w:World) (hr0:Kd.C k53 w A0 l.length l) (hok:∀ x ∈ l,okI x.f0∧okI x.f1) :
  Calls Try.prog 68 #[.slice A0 l.length c0] w (FlatPost w l):=by
 have HR0:=zF hr0
 have hml:=hr0.2.1
 have HOK:=zF hok
 have hmm:=@run_makeMap Try.prog
 have hu53:=Try.underlying53
 have HM0:=zF (MapAt.made w Try.prog 3)
 have HB0:=zF (below_alloc (Below.refl w.heap.size w) (.map #[] 0))
 clear hr0 hok
 go_enter Try.func68,Try.ntmps68
 go_wp2
 go_loopg [5,7,11] l.length (fun gk v5 _ v11 w'=>∃ i:Nat,v11 = .int .i64 i∧v5 = .int .i64 (lastId l i)∧Aside0 (i≤l.length∧gk=l.length - i)∧Aside0 (flatsB 0 l=flatsB (lastId l i) (l.drop i))∧Aside0 (Rise l i) ∧
  Aside0 (∃ n,MapAt w' Try.prog 3 w.heap.size (intF (Value.int .i64) (roomsF (l.take i))) n)∧Aside0 (Below w.heap.size w w'))
 case atStart=>exact ⟨0,rfl,rfl,⟨Nat.zero_le _,rfl⟩,⟨rfl⟩,⟨⟨fun f hf=>(by rw [List.take_zero] at hf;cases hf),Int.le_refl _⟩⟩,⟨0,by rw [List.take_zero,show (fun _=>none:Value→Option Value)=intF (Value.int .i64) (roomsF []) from by rw [intF_none (Value.int .i64)];congr 1] at *;exact HM0.out⟩,HB0⟩
 case round =>
  clear HM0 HB0 hmm
  obtain ⟨i,rfl,rfl,HI,HE,HRs,HM,HB⟩:=hrel
  have hi:=HI.out.1
  by_cases hlt:i < l.length
  ·
   obtain ⟨ad,e,x0,x1⟩:=at_T53 HR0.out (i:Int) (by omega) (by omega)
   cases e
   simp only [Int.toNat_natCast] at x0 x1
   replace x0:=pw_cell_below HB.out x0
   replace x1:=pw_cell_below HB.out x1
   have HS:=zF (flatsB_step hlt (lastId l i))
   have HRn:=zF (fun hb=>rise_step hlt HRs.out hb)
   have HMn:=zF (fun hb=>rooms_step hlt HRs.out hb)
   have HLn:Aside0 (lastId l (i + 1)=(rd_T53 l (i:Int)).f0):=⟨rfl⟩
   have HXo:=zF (HOK.out _ (show rd_T53 l (i:Int) ∈ l by rw [rd53_get hlt];exact List.getElem_mem hlt))
   have HLT:=zF hlt
   obtain ⟨nm,hM⟩:=HM.out
   have HM1:=zF hM
   generalize rd_T53 l (i:Int)=x at *
   generalize lastId l i=la at *
   clear hM HM HRs
   cases h1:decide (x.f0≤la) with
   | true =>
    have HF:Aside0 (flatsB 0 l=false):=⟨by rw [HE.out,HS.out];unfold flatB;rw [h1];simp⟩
    go_wp2
    go_ret2
    exact .inr ⟨HF.out,rfl,below_alloc HB.out _⟩
   | false =>
    cases h2:decide (x.f0 > 64) with
    | true =>
     have HF:Aside0 (flatsB 0 l=false):=⟨by rw [HE.out,HS.out];unfold flatB;rw [h1,h2];simp⟩
     go_wp2
     go_ret2
     exact .inr ⟨HF.out,rfl,below_alloc HB.out _⟩
    | false =>
     cases h3:decide (x.f1 < 1) with
     | true =>
      have HF:Aside0 (flatsB 0 l=false):=⟨by rw [HE.out,HS.out];unfold flatB;rw [h1,h2,h3];simp⟩
      go_wp2
      go_ret2
      exact .inr ⟨HF.out,rfl,below_alloc HB.out _⟩
     | false =>
      cases h4:decide (x.f1 > 10) with
      | true =>
       have HF:Aside0 (flatsB 0 l=false):=⟨by rw [HE.out,HS.out];unfold flatB;rw [h1,h2,h3,h4];simp⟩
       go_wp2
       go_ret2
       exact .inr ⟨HF.out,rfl,below_alloc HB.out _⟩
      | false =>
       have hfb:flatB la x=true:=by unfold flatB;rw [h1,h2,h3,h4];rfl
       have HF:Aside0 (flatsB 0 l=flatsB x.f0 (l.drop (i + 1))):=⟨by rw [HE.out,HS.out,hfb,Bool.true_and]⟩
       have HRi:=zF (HRn.out hfb)
       have HRo:=zF (HMn.out hfb)
       have HKy:=zF (okI_key HXo.out.1)
       clear hfb HRn HMn HE HS
       go_upto_region 7 with (fail)
       clear x0 x1 h1 h2 h3 h4
       have HBa:Aside0 (Below wr.heap.size wr (wr.alloc (.cells #[.int .i64 x.f0,.int .i64 x.f1] 53))):=⟨below_alloc (Below.refl _ _) _⟩
       have HXa:=zF (blk_new wr (.cells #[.int .i64 x.f0,.int .i64 x.f1] 53))
       generalize wr.alloc (.cells #[.int .i64 x.f0,.int .i64 x.f1] 53)=wa at HBa HXa ⊢
       refine wp_region_any (by kernel_rfl) ?_
       refine wpAny_of_held (S:=fun W=>W.heap[wr.heap.size]? = some (.cells #[.int .i64 x.f0,.int .i64 x.f1] 53 (0,0))) _ _ _ _ ?_
       show wpAnyH _ _ _ _ _ 9 (Array.replicate 9 false) _ wa.drew
       have HBx:Aside0 (Below wr.heap.size wr wa.drew):=⟨below_drew1 HBa.out⟩
       have HS:wa.drew.heap[wr.heap.size]? = some (.cells #[.int .i64 x.f0,.int .i64 x.f1] 53 (0,0)):=HXa.out
       generalize wa.drew=wx at HS HBx ⊢
       refine tK (v:=.map (some w.heap.size)) 0 HS (fun w9 h9=>?hy) ?_
       case hy=>(skip;go_simp)
       try simp only [Act.put,zA,zB,zC]
       refine tK (v:=.pointer (some ⟨wr.heap.size,0,none⟩)) 1 HS (fun w9 h9=>?hy) ?_
       case hy=>(skip;go_simp)
       try simp only [Act.put,zA,zB,zC]
       refine tK (v:=.int .i64 x.f0) 2 HS (fun w9 h9=>?hy) ?_
       case hy=>(have y1:=(blk_cell h9 0).trans rfl;go_simp)
       try simp only [Act.put,zA,zB,zC]
       refine tK (v:=.pointer (some ⟨wr.heap.size,1,none⟩)) 3 HS (fun w9 h9=>?hy) ?_
       case hy=>(skip;go_simp)
       try simp only [Act.put,zA,zB,zC]
       refine tK (v:=.int .i64 x.f1) 4 HS (fun w9 h9=>?hy) ?_
       case hy=>(have y1:=(blk_cell h9 1).trans rfl;go_simp)
       try simp only [Act.put,zA,zB,zC]
       refine tK (v:=.pointer (some ⟨wr.heap.size,0,none⟩)) 5 HS (fun w9 h9=>?hy) ?_
       case hy=>(skip;go_simp)
       try simp only [Act.put,zA,zB,zC]
       refine tK (v:=.int .i64 x.f0) 6 HS (fun w9 h9=>?hy) ?_
       case hy=>(have y1:=(blk_cell h9 0).trans rfl;go_simp)
       try simp only [Act.put,zA,zB,zC]
       refine only_held 7 rfl (by kernel_rfl) (fun K hK=>?_)
       refine step_store (by rfl) (.tmp 34) (.tmp 36) (.tmp 38) 75 rfl 3 3 keyInt Try.underlying75 w.heap.size nm (intF (Value.int .i64) (roomsF (l.take i))) (by rfl) (HM1.out.kept HBx.out) (.int .i64 x.f0) (.int .i64 x.f1) (.int .i64 x.f0) (by rfl) (by rfl) HKy.out ?_
       intro w5 hm5 hg5
       rw [intF_put,HRo.out] at hm5
       have HM5:=zF hm5
       have hsz:w.heap.size≤wx.heap.size:=Nat.le_trans HB.out.size HBx.out.size
       have HB5:Aside0 (Below w.heap.size w w5):=⟨(below_step HB.out HBx.out).grown hg5 hsz (fun k e=>by cases e;exact Nat.le_refl _)⟩
       have hne:some wr.heap.size≠some w.heap.size:=fun e=>by have e:=Option.some.inj e;have h1:=HM1.out.lt;omega
       have HS2:=(hg5.block _ (blk_lt HS) hne).trans HS
       clear hm5 hg5 hne hsz
       refine hK.out _ _ HS2 ?_
       try simp only [Act.put,zA,zB,zC]
       clear hK K
       replace HS:=HS2
       clear HS2
       refine tK (v:=.int .i64 x.f0) 8 HS (fun w9 h9=>?hy) ?_
       case hy=>(skip;go_simp)
       try simp only [Act.put,zA,zB,zC]
       refine done_held (by kernel_rfl) ?_
       clear HS
       have HU:=HI.out
       have HU2:=HLT.out
       go_wp2
       go_roundg (l.length - (i + 1))
       case measure=>omega
       case rel=>exact ⟨i + 1,by go_num,by rw [HLn.out],⟨by omega,rfl⟩,⟨by rw [HF.out,HLn.out]⟩,HRi,⟨_,HM5.out⟩,HB5⟩
  ·
   obtain rfl:i=l.length:=by omega
   have HF:Aside0 (flatsB 0 l=true):=⟨by rw [HE.out,List.drop_length];rfl⟩
   go_wp2
   go_ret2
   obtain ⟨n,hM⟩:=HM.out
   rw [List.take_length] at hM
   exact .inl ⟨HF.out,_,n,rfl,Nat.le_refl _,hM,HB.out⟩
end Go.Proofs.Ytjgnkhfgmpaljaa.P
namespace Go.Proofs.Ytjgnkhfgmpaljaa.P
open Go.RowKit Go.Proofs.YtjgnkhfgmpaljaaW.PrintWords Go.Proofs.YtjgnkhfgmpaljaaW.PrintLast Go.Proofs.YtjgnkhfgmpaljaaW.PrintMore Go.Proofs.Ytjgnkhfgmpaljaa.M
open Go.Maps (Keyed int_keyed keyOf_int_mk)
set_option linter.unusedVariables false
set_option linter.unusedSimpArgs false
section
variable {w:World} {ops:Array Oper} {rest:List Oper} {o:Oper} {a:Act} {Q:Exit→Act→World→Prop}
theorem wpList_lookI (hg:o.guard=none) (m x:Operand) (hop:o.op=Op.lookup 75 m x false) (b n:Nat) (g:Int→Option Int) (hm:a.eval m = .map (some b)) (hown:MapAt w Try.prog 3 b (intF (Value.int .i64) g) n)
  (i:Int) (hx:a.eval x = .int .i64 i) (hi:okI i) (v:Int) (hv:(g i).getD 0=v) (hK:wpList Try.prog ops Q rest (a.put o.dst (.int .i64 v)) w):wpList Try.prog ops Q (o :: rest) a w:=by
 refine wpList_look hg m x 75 false hop 3 3 keyInt Try.underlying75 (.int .i64 0) zeroI b n _ hm hown (.int .i64 i) (.int .i64 i) hx (okI_key hi) ((g i).map (Value.int .i64)) rfl ?_
 rw [looked_false]
 cases h:g i with
 | none=>rw [h] at hv;subst hv;exact hK
 | some u=>rw [h] at hv;subst hv;exact hK
theorem wpList_lookB (hg:o.guard=none) (m x:Operand) (hop:o.op=Op.lookup 37 m x false) (b n:Nat) (g:Int→Option Bool) (hm:a.eval m = .map (some b)) (hown:MapAt w Try.prog 3 b (intF Value.bool g) n)
  (i:Int) (hx:a.eval x = .int .i64 i) (hi:okI i) (v:Bool) (hv:(g i).getD false=v) (hK:wpList Try.prog ops Q rest (a.put o.dst (.bool v)) w):wpList Try.prog ops Q (o :: rest) a w:=by
 refine wpList_look hg m x 37 false hop 3 4 keyInt Try.underlying37 (.bool false) zeroB b n _ hm hown (.int .i64 i) (.int .i64 i) hx (okI_key hi) ((g i).map Value.bool) rfl ?_
 rw [looked_false]
 cases h:g i with
 | none=>rw [h] at hv;subst hv;exact hK
 | some u=>rw [h] at hv;subst hv;exact hK
end
def wantsB (ro:Int→Option Int):(Int→Option Bool)→List Int→Bool
 | _,[]=>true
 | sn,f :: l=>!((ro f).getD 0 == 0 || (sn f).getD false) && wantsB ro (fun j=>if j=f then some true else sn j) l
def headB (ro:Int→Option Int) (tk:Int→Option Bool) (la:Int) (p:S41):Bool:=!(decide (p.f0≤la) || decide (p.f0 > 64) || ((p.f1 != 0) && ((ro p.f1).getD 0 == 0 || (tk p.f1).getD false)))
def fitsB (ro:Int→Option Int) (tk:Int→Option Bool) (la:Int) (p:S41):Bool:=headB ro tk la p && wantsB ro (fun _=>none) p.f2
def putT (tk:Int→Option Bool) (p:S41):Int→Option Bool:=fun j=>if j=p.f1 then some true else tk j
theorem wantsB_step {ro:Int→Option Int} {sn:Int→Option Bool} {l:List Int} {i:Nat} (h:i < l.length):wantsB ro sn (l.drop i)=(!((ro (rd l (i:Int))).getD 0 == 0 || (sn (rd l (i:Int))).getD false) && wantsB ro (fun j=>if j=rd l (i:Int) then some true else sn j) (l.drop (i + 1))):=by
 rw [List.drop_eq_getElem_cons h,rd_get h];rfl
/-- What Valid's closure works on. -/
structure VAt (w0 w:World) (bl br bt mr mt:Nat) (ro:Int→Option Int) (tk:Int→Option Bool) (la:Int):Prop where
 below:Below w0.heap.size w0 w
 cl:w.heap[bl]? = some (.cells #[.int .i64 la] 3 (0,0))
 cr:w.heap[br]? = some (.cells #[.map (some mr)] 75 (0,0))
 ct:w.heap[bt]? = some (.cells #[.map (some mt)] 37 (0,0))
 ro:∃ n,MapAt w Try.prog 3 mr (intF (Value.int .i64) ro) n
 tk:∃ n,MapAt w Try.prog 3 mt (intF Value.bool tk) n
 hl:w0.heap.size≤bl
 hm:w0.heap.size≤mt
 ne:mr≠mt
section
variable {w0 w w':World} {bl br bt mr mt:Nat} {ro:Int→Option Int} {tk:Int→Option Bool} {la:Int}
theorem map_ne {w:World} {P:Program} {k b g n:Nat} {f:Value→Option Value} {cs:Array Value} {q:TypeId} (h:MapAt w P k b f n) (hg:w.heap[g]? = some (.cells cs q (0,0))):g≠b:=fun e=>by
 obtain ⟨es,cl,hb,_⟩:=h
 rw [← e,hg] at hb;cases hb
theorem VAt.kept (h:VAt w0 w bl br bt mr mt ro tk la) (hb:Below w.heap.size w w'):VAt w0 w' bl br bt mr mt ro tk la:=by
 refine ⟨h.below.trans (hb.mono h.below.size),blk_below h.cl hb,blk_below h.cr hb,blk_below h.ct hb,?_,?_,h.hl,h.hm,h.ne⟩
 ·
  obtain ⟨n,hn⟩:=h.ro;exact ⟨n,hn.kept hb⟩
 ·
  obtain ⟨n,hn⟩:=h.tk;exact ⟨n,hn.kept hb⟩
theorem VAt.put (h:VAt w0 w bl br bt mr mt ro tk la) {n:Nat} {tk':Int→Option Bool} (hg:w.grownBy w' (some mt)) (hm:MapAt w' Try.prog 3 mt (intF Value.bool tk') n):VAt w0 w' bl br bt mr mt ro tk' la:=by
 obtain ⟨m,hm0⟩:=h.tk
 have hnr:∀ {k:Nat} {cells:Array Value} {q:Nat},w.heap[k]? = some (.cells cells q (0,0))→some k≠some mt:=fun hc e=>map_ne hm0 hc (Option.some.inj e)
 refine ⟨h.below.grown hg h.below.size (fun k e=>by cases e;exact h.hm),(hg.block bl (blk_lt h.cl) (hnr h.cl)).trans h.cl,(hg.block br (blk_lt h.cr) (hnr h.cr)).trans h.cr,(hg.block bt (blk_lt h.ct) (hnr h.ct)).trans h.ct,?_,⟨n,hm⟩,h.hl,h.hm,h.ne⟩
 obtain ⟨m2,hm2⟩:=h.ro
 exact ⟨m2,hm2.grown hg (fun e=>h.ne (Option.some.inj e))⟩
theorem VAt.keptBy (h:VAt w0 w bl br bt mr mt ro tk la) {B n:Nat} {f:Value→Option Value} (hg:w.grownBy w' (some B)) (hB:w0.heap.size≤B) (hM:MapAt w Try.prog 3 B f n) (h1:mr≠B) (h2:mt≠B):VAt w0 w' bl br bt mr mt ro tk la:=by
 have hnr:∀ {k:Nat} {cells:Array Value} {q:Nat},w.heap[k]? = some (.cells cells q (0,0))→some k≠some B:=fun hc e=>map_ne hM hc (Option.some.inj e)
 refine ⟨h.below.grown hg h.below.size (fun k e=>by cases e;exact hB),(hg.block bl (blk_lt h.cl) (hnr h.cl)).trans h.cl,(hg.block br (blk_lt h.cr) (hnr h.cr)).trans h.cr,(hg.block bt (blk_lt h.ct) (hnr h.ct)).trans h.ct,?_,?_,h.hl,h.hm,h.ne⟩
 ·
  obtain ⟨n,hn⟩:=h.ro;exact ⟨n,hn.grown hg (fun e=>h1 (Option.some.inj e))⟩
 ·
  obtain ⟨n,hn⟩:=h.tk;exact ⟨n,hn.grown hg (fun e=>h2 (Option.some.inj e))⟩
theorem VAt.last (h:VAt w0 w bl br bt mr mt ro tk la) (x:Int):VAt w0 (w.setCell ⟨bl,0,none⟩ (.int .i64 x)) bl br bt mr mt ro tk x:=by
 have hr:br≠bl:=blk_ne h.cr h.cl (by decide)
 have ht:bt≠bl:=blk_ne h.ct h.cl (by decide)
 refine ⟨h.below.setCell h.hl _,?_,blk_far h.cr hr _,blk_far h.ct ht _,?_,?_,h.hl,h.hm,h.ne⟩
 ·
  exact blk_put h.cl 0 _ rfl
 ·
  obtain ⟨n,hn⟩:=h.ro;exact ⟨n,hn.setCell (fun e=>map_ne hn h.cl e.symm) _⟩
 ·
  obtain ⟨n,hn⟩:=h.tk;exact ⟨n,hn.setCell (fun e=>map_ne hn h.cl e.symm) _⟩
end
def FitPost (w0:World) (bl br bt mr mt:Nat) (ro:Int→Option Int) (tk:Int→Option Bool) (p:S41) (fb:Bool) (e:Ending) (w':World):Prop :=
 e = .returned (.bool fb)∧Below w0.heap.size w0 w'∧(fb=true→VAt w0 w' bl br bt mr mt ro (putT tk p) p.f0)
set_option maxHeartbeats 16000000 in
set_option maxRecDepth 100000 in
theorem fits_calls {w0 w:World} {bl br bt mr mt:Nat} {ro:Int→Option Int} {tk:Int→Option Bool} {la:Int} (h:VAt w0 w bl br bt mr mt ro tk la) (p:S41) (A:Option Addr) (c:Nat) (hr:(Kd.int .i64).C w0 A p.f2.length p.f2) (hok:okI p.f1∧∀ f ∈ p.f2,okI f) :
  Calls Try.prog 69 #[.agg #[.int .i64 p.f0,.int .i64 p.f1,.slice A p.f2.length c],.pointer (some ⟨bl,0,none⟩),.pointer (some ⟨br,0,none⟩),.pointer (some ⟨bt,0,none⟩)] w (FitPost w0 bl br bt mr mt ro tk p (fitsB ro tk la p)):=by
 have HR:=zF hr
 have hml:=hr.2.1
 have HOK:=zF hok
 have hmm:=@run_makeMap Try.prog
 have hu41:=Try.underlying41
 have HH:=zF h
 clear h hr hok
 go_enter Try.func69,Try.ntmps69
 go_upto_region 1 with ((with_reducible refine gate_dst (N:=4) rfl ?_);(try (refine gate_guard (by rfl) ?_;dsimp only));refine box_event ?hg (N:=4) ?hd (cs:=#[.int .i64 p.f0,.int .i64 p.f1,.slice A p.f2.length c]) (t:=41) ?hr ?_;(case hd=>rfl);(case hg=>rfl);(case hr=>first|(go_simp;done)|(go_simp;rfl));intro gb hgb w1 hbox hb;have HX:=zF hbox;have HB1:=zF hb;have HGB:=zF (show w.heap.size≤gb by rw [hgb];exact Nat.le_refl _);clear hbox hb hgb)
 have HV:=zF (HH.out.kept HB1.out)
 clear HH HB1
 have x0:w1.cell? ⟨gb,0,none⟩=some (.int .i64 p.f0):=(blk_cell HX.out 0).trans rfl
 have x1:w1.cell? ⟨gb,1,none⟩=some (.int .i64 p.f1):=(blk_cell HX.out 1).trans rfl
 have y0:w1.cell? ⟨bl,0,none⟩=some (.int .i64 la):=(blk_cell HV.out.cl 0).trans rfl
 have y1:w1.cell? ⟨br,0,none⟩=some (.map (some mr)):=(blk_cell HV.out.cr 0).trans rfl
 have y2:w1.cell? ⟨bt,0,none⟩=some (.map (some mt)):=(blk_cell HV.out.ct 0).trans rfl
 obtain ⟨nr,hro⟩:=HV.out.ro
 have HRo:=zF hro
 obtain ⟨nt,htk⟩:=HV.out.tk
 have HTk:=zF htk
 clear hro htk
 have HF:Aside0 (fitsB ro tk la p=(headB ro tk la p && wantsB ro (fun _=>none) p.f2)):=⟨rfl⟩
 have HHd:Aside0 (headB ro tk la p = !(decide (p.f0≤la) || decide (p.f0 > 64) || ((p.f1 != 0) && ((ro p.f1).getD 0 == 0 || (tk p.f1).getD false)))):=⟨rfl⟩
 generalize fitsB ro tk la p=fb at *
 obtain ⟨rv,hrv⟩:∃ rv,(ro p.f1).getD 0=rv:=⟨_,rfl⟩
 obtain ⟨tv,htv⟩:∃ tv,(tk p.f1).getD false=tv:=⟨_,rfl⟩
 rw [hrv,htv] at HHd
 have HRv:=zF hrv
 have HTv:=zF htv
 clear hrv htv
 cases h1:decide (p.f0≤la) with
 | true =>
  have HN:Aside0 (fb=false):=⟨by rw [HF.out,HHd.out,h1];simp⟩
  go_wp2
  go_ret
  exact ⟨by rw [HN.out];rfl,HV.out.below,fun e=>by rw [HN.out] at e;cases e⟩
 | false =>
  cases h2:decide (p.f0 > 64) with
  | true =>
   have HN:Aside0 (fb=false):=⟨by rw [HF.out,HHd.out,h1,h2];simp⟩
   go_wp2
   go_ret
   exact ⟨by rw [HN.out];rfl,HV.out.below,fun e=>by rw [HN.out] at e;cases e⟩
  | false =>
   cases h3:(p.f1 != 0) with
   | false =>
    have HN:Aside0 (headB ro tk la p=true):=⟨by rw [HHd.out,h1,h2,h3];simp⟩
    clear HHd
    go_upto_region 3 with (fail)
    clear h1 h2 h3 y1 HRo HRv HTv
    refine wp_region_any (by kernel_rfl) ?_
    refine wpAny_of_held (S:=fun W=>W.heap[gb]? = some (.cells #[.int .i64 p.f0,.int .i64 p.f1,.slice A p.f2.length c] 41 (0,0))∧W.heap[bt]? = some (.cells #[.map (some mt)] 37 (0,0))) _ _ _ _ ?_
    show wpAnyH _ _ _ _ _ 7 (Array.replicate 7 false) _ w1.drew
    have HVd:Aside0 (VAt w0 w1.drew bl br bt mr mt ro tk la):=⟨HV.out.kept (below_drew (Below.refl _ _))⟩
    have HS:(fun W=>W.heap[gb]? = some (.cells #[.int .i64 p.f0,.int .i64 p.f1,.slice A p.f2.length c] 41 (0,0))∧W.heap[bt]? = some (.cells #[.map (some mt)] 37 (0,0))) w1.drew:=⟨HX.out,HV.out.ct⟩
    have hbg:gb≠bl:=blk_ne HX.out HV.out.cl (by decide)
    clear x0 x1 y0 y2 HTk HX HV
    generalize w1.drew=wx at HS HVd ⊢
    refine tK (v:=.map (some mt)) 0 HS (fun w9 h9=>?hy) ?_
    case hy=>(have z:=(blk_cell h9.2 0).trans rfl;go_simp)
    try simp only [Act.put,zA,zB,zC]
    refine tK (v:=.pointer (some ⟨gb,1,none⟩)) 1 HS (fun w9 h9=>?hy) ?_
    case hy=>(skip;go_simp)
    try simp only [Act.put,zA,zB,zC]
    refine tK (v:=.int .i64 p.f1) 2 HS (fun w9 h9=>?hy) ?_
    case hy=>(have z:=(blk_cell h9.1 1).trans rfl;go_simp)
    try simp only [Act.put,zA,zB,zC]
    refine tK (v:=.pointer (some ⟨gb,0,none⟩)) 3 HS (fun w9 h9=>?hy) ?_
    case hy=>(skip;go_simp)
    try simp only [Act.put,zA,zB,zC]
    refine tK (v:=.int .i64 p.f0) 4 HS (fun w9 h9=>?hy) ?_
    case hy=>(have z:=(blk_cell h9.1 0).trans rfl;go_simp)
    try simp only [Act.put,zA,zB,zC]
    refine only_held 5 rfl (by kernel_rfl) (fun K hK=>?_)
    obtain ⟨n5,hm5o⟩:=HVd.out.tk
    refine step_store (by rfl) (.tmp 36) (.tmp 38) (.const (.bool true)) 37 rfl 3 4 keyInt Try.underlying37 mt n5 (intF Value.bool tk) (by rfl) hm5o (.int .i64 p.f1) (.bool true) (.int .i64 p.f1) (by rfl) (by rfl) (okI_key HOK.out.1) ?_
    intro w5 hm5 hg5
    rw [intF_put] at hm5
    have HV5:Aside0 (VAt w0 w5 bl br bt mr mt ro (putT tk p) la):=⟨HVd.out.put hg5 hm5⟩
    have HS5:(fun W=>W.heap[gb]? = some (.cells #[.int .i64 p.f0,.int .i64 p.f1,.slice A p.f2.length c] 41 (0,0))∧W.heap[bt]? = some (.cells #[.map (some mt)] 37 (0,0))) w5:=⟨(hg5.block gb (blk_lt HS.1) (fun e=>map_ne hm5o HS.1 (Option.some.inj e))).trans HS.1,HV5.out.ct⟩
    clear hm5 hg5 hm5o
    refine hK.out _ _ HS5 ?_
    try simp only [Act.put,zA,zB,zC]
    clear hK K
    replace HS:=HS5
    clear HS5 HVd
    have z1:w5.cell? ⟨bl,0,none⟩=some (.int .i64 la):=(blk_cell HV5.out.cl 0).trans rfl
    have z2:=blk_frozen HV5.out.cl 0
    have HV6:=zF (HV5.out.last p.f0)
    have HS6:(fun W=>W.heap[gb]? = some (.cells #[.int .i64 p.f0,.int .i64 p.f1,.slice A p.f2.length c] 41 (0,0))∧W.heap[bt]? = some (.cells #[.map (some mt)] 37 (0,0))) (w5.setCell ⟨bl,0,none⟩ (.int .i64 p.f0)):=⟨blk_far HS.1 hbg _,HV6.out.ct⟩
    clear HS HV5 hbg
    refine only_held 6 rfl (by kernel_rfl) (fun K hK=>?_)
    rw [if_pos (by rfl)]
    go_simp
    refine hK.out _ _ HS6 ?_
    try simp only [Act.put,zA,zB,zC]
    clear hK K z1 z2
    have HX6:=zF HS6.1
    clear HS6
    generalize w5.setCell ⟨bl,0,none⟩ (.int .i64 p.f0)=w6 at HV6 HX6 ⊢
    refine done_held (by kernel_rfl) ?_
    have HM6:=zF (MapAt.made w6 Try.prog 3)
    rw [show (fun _=>none:Value→Option Value)=intF Value.bool (fun _=>none) from intF_none Value.bool] at HM6
    have HV7:=zF (HV6.out.kept (below_alloc (Below.refl w6.heap.size w6) (.map #[] 0)))
    have HF2:Aside0 (fb=wantsB ro (fun _=>none) p.f2):=⟨by rw [HF.out,HN.out];rfl⟩
    have HSz:Aside0 (w0.heap.size≤w6.heap.size∧mr≠w6.heap.size∧mt≠w6.heap.size):=⟨⟨HV6.out.below.size,fun e=>by obtain ⟨n,hn⟩:=HV6.out.ro;have:=hn.lt;omega,fun e=>by obtain ⟨n,hn⟩:=HV6.out.tk;have:=hn.lt;omega⟩⟩
    have HX7:Aside0 ((w6.alloc (.map #[] 0)).heap[gb]? = some (.cells #[.int .i64 p.f0,.int .i64 p.f1,.slice A p.f2.length c] 41 (0,0))):=⟨blk_alloc HX6.out _⟩
    clear HF HN HV6 HX6
    go_upto_region 5 with (fail)
    generalize w6.alloc (.map #[] 0)=w7 at HM6 HV7 HX7 ⊢
    have z3:w7.cell? ⟨gb,2,none⟩=some (.slice A p.f2.length c):=(blk_cell HX7.out 2).trans rfl
    go_wp2
    clear z3
    go_loopg [8,45] p.f2.length (fun gk _ v45 w'=>∃ i:Nat,v45 = .int .i64 i∧Aside0 (i≤p.f2.length∧gk=p.f2.length - i)∧Aside0 (∃ sn,fb=wantsB ro sn (p.f2.drop i)∧∃ n,MapAt w' Try.prog 3 w6.heap.size (intF Value.bool sn) n)∧Aside0 (VAt w0 w' bl br bt mr mt ro (putT tk p) p.f0))
    case atStart=>exact ⟨0,rfl,⟨Nat.zero_le _,rfl⟩,⟨_,by rw [List.drop_zero];exact HF2.out,_,HM6.out⟩,HV7⟩
    case round =>
     clear HF2 HM6 HV7 hmm
     obtain ⟨i,rfl,HI,HE,HV⟩:=hrel
     have hi:=HI.out.1
     by_cases hlt:i < p.f2.length
     ·
      obtain ⟨ad,e,y⟩:=intC_at HR.out (i:=i) hlt
      subst e
      replace y:=pw_cell_below HV.out.below y
      have y1:wr.cell? ⟨br,0,none⟩=some (.map (some mr)):=(blk_cell HV.out.cr 0).trans rfl
      obtain ⟨sn,hE,ns,hM⟩:=HE.out
      obtain ⟨nr,hro⟩:=HV.out.ro
      have HRo:=zF hro
      have HM:=zF hM
      have HKo:=zF (HOK.out.2 _ (rd_mem hlt))
      have HS:=zF (hE.trans (wantsB_step hlt))
      have HLT:=zF hlt
      clear hro hM hE HE
      generalize rd p.f2 (i:Int)=f at *
      obtain ⟨rv,hrv⟩:∃ rv,(ro f).getD 0=rv:=⟨_,rfl⟩
      obtain ⟨sv,hsv⟩:∃ sv,(sn f).getD false=sv:=⟨_,rfl⟩
      rw [hrv,hsv] at HS
      have HRv:=zF hrv
      have HSv:=zF hsv
      clear hrv hsv
      cases h4:(rv == 0) with
      | true =>
       have HN:Aside0 (fb=false):=⟨by rw [HS.out,h4];simp⟩
       go_wp2_with (first|(at_lookup;(try (refine gate_guard (by rfl) ?_;dsimp only));refine wpList_lookI (by rfl) (.tmp 49) (.tmp 50) (by rfl) mr nr ro (by rfl) HRo.out f (by rfl) HKo.out rv HRv.out ?_)|(at_lookup;(try (refine gate_guard (by rfl) ?_;dsimp only));refine wpList_lookB (by rfl) (.tmp 54) (.tmp 55) (by rfl) w6.heap.size ns sn (by rfl) HM.out f (by rfl) HKo.out _ HSv.out ?_))
       go_ret
       exact ⟨by rw [HN.out];rfl,HV.out.below,fun e=>by rw [HN.out] at e;cases e⟩
      | false =>
       cases sv with
       | true =>
        have HN:Aside0 (fb=false):=⟨by rw [HS.out,h4];simp⟩
        go_wp2_with (first|(at_lookup;(try (refine gate_guard (by rfl) ?_;dsimp only));refine wpList_lookI (by rfl) (.tmp 49) (.tmp 50) (by rfl) mr nr ro (by rfl) HRo.out f (by rfl) HKo.out rv HRv.out ?_)|(at_lookup;(try (refine gate_guard (by rfl) ?_;dsimp only));refine wpList_lookB (by rfl) (.tmp 54) (.tmp 55) (by rfl) w6.heap.size ns sn (by rfl) HM.out f (by rfl) HKo.out _ HSv.out ?_))
        go_ret
        exact ⟨by rw [HN.out];rfl,HV.out.below,fun e=>by rw [HN.out] at e;cases e⟩
       | false =>
        have HN:Aside0 (fb=wantsB ro (fun j=>if j=f then some true else sn j) (p.f2.drop (i + 1))):=⟨by rw [HS.out,h4];simp⟩
        clear HS
        go_upto_region 10 with (first|(at_lookup;(try (refine gate_guard (by rfl) ?_;dsimp only));refine wpList_lookI (by rfl) (.tmp 49) (.tmp 50) (by rfl) mr nr ro (by rfl) HRo.out f (by rfl) HKo.out rv HRv.out ?_)|(at_lookup;(try (refine gate_guard (by rfl) ?_;dsimp only));refine wpList_lookB (by rfl) (.tmp 54) (.tmp 55) (by rfl) w6.heap.size ns sn (by rfl) HM.out f (by rfl) HKo.out _ HSv.out ?_))
        clear h4 y y1
        go_wp2_with (at_mapUpdate;refine wpList_store rfl (.tmp 58) (.tmp 59) (.const (.bool true)) 37 rfl 3 4 keyInt Try.underlying37 w6.heap.size ns (intF Value.bool sn) rfl HM.out (.int .i64 f) (.bool true) (.int .i64 f) rfl rfl (okI_key HKo.out) ?_;intro w8 hm8 hg8;rw [intF_put] at hm8;have HM8:=zF hm8;have HV8:=zF (HV.out.keptBy hg8 HSz.out.1 HM.out HSz.out.2.1 HSz.out.2.2);clear hm8 hg8)
        go_roundg (p.f2.length - (i + 1))
        case measure=>have:=HI.out;have:=HLT.out;omega
        case rel=>exact ⟨i + 1,by go_num,⟨by have:=HLT.out;omega,rfl⟩,⟨_,HN.out,_,HM8.out⟩,HV8⟩
     ·
      obtain rfl:i=p.f2.length:=by omega
      have HN:Aside0 (fb=true):=⟨by obtain ⟨sn,hE,_⟩:=HE.out;rw [hE,List.drop_length];rfl⟩
      go_wp2
      go_ret
      exact ⟨by rw [HN.out];rfl,HV.out.below,fun _=>HV.out⟩
   | true =>
    cases h4:(rv == 0) with
    | true =>
     have HN:Aside0 (fb=false):=⟨by rw [HF.out,HHd.out,h1,h2,h3,h4];simp⟩
     go_wp2_with (first|(at_lookup;(try (refine gate_guard (by rfl) ?_;dsimp only));refine wpList_lookI (by rfl) (.tmp 23) (.tmp 25) (by rfl) mr nr ro (by rfl) HRo.out p.f1 (by rfl) HOK.out.1 rv HRv.out ?_)|(at_lookup;(try (refine gate_guard (by rfl) ?_;dsimp only));refine wpList_lookB (by rfl) (.tmp 29) (.tmp 31) (by rfl) mt nt tk (by rfl) HTk.out p.f1 (by rfl) HOK.out.1 _ HTv.out ?_))
     go_ret
     exact ⟨by rw [HN.out];rfl,HV.out.below,fun e=>by rw [HN.out] at e;cases e⟩
    | false =>
     cases tv with
     | true =>
      have HN:Aside0 (fb=false):=⟨by rw [HF.out,HHd.out,h1,h2,h3,h4];simp⟩
      go_wp2_with (first|(at_lookup;(try (refine gate_guard (by rfl) ?_;dsimp only));refine wpList_lookI (by rfl) (.tmp 23) (.tmp 25) (by rfl) mr nr ro (by rfl) HRo.out p.f1 (by rfl) HOK.out.1 rv HRv.out ?_)|(at_lookup;(try (refine gate_guard (by rfl) ?_;dsimp only));refine wpList_lookB (by rfl) (.tmp 29) (.tmp 31) (by rfl) mt nt tk (by rfl) HTk.out p.f1 (by rfl) HOK.out.1 _ HTv.out ?_))
      go_ret
      exact ⟨by rw [HN.out];rfl,HV.out.below,fun e=>by rw [HN.out] at e;cases e⟩
     | false =>
      have HN:Aside0 (headB ro tk la p=true):=⟨by rw [HHd.out,h1,h2,h3,h4];simp⟩
      clear HHd
      go_upto_region 3 with (first|(at_lookup;(try (refine gate_guard (by rfl) ?_;dsimp only));refine wpList_lookI (by rfl) (.tmp 23) (.tmp 25) (by rfl) mr nr ro (by rfl) HRo.out p.f1 (by rfl) HOK.out.1 rv HRv.out ?_)|(at_lookup;(try (refine gate_guard (by rfl) ?_;dsimp only));refine wpList_lookB (by rfl) (.tmp 29) (.tmp 31) (by rfl) mt nt tk (by rfl) HTk.out p.f1 (by rfl) HOK.out.1 _ HTv.out ?_))
      clear h1 h2 h3 h4 y1 HRo HRv HTv
      refine wp_region_any (by kernel_rfl) ?_
      refine wpAny_of_held (S:=fun W=>W.heap[gb]? = some (.cells #[.int .i64 p.f0,.int .i64 p.f1,.slice A p.f2.length c] 41 (0,0))∧W.heap[bt]? = some (.cells #[.map (some mt)] 37 (0,0))) _ _ _ _ ?_
      show wpAnyH _ _ _ _ _ 7 (Array.replicate 7 false) _ w1.drew
      have HVd:Aside0 (VAt w0 w1.drew bl br bt mr mt ro tk la):=⟨HV.out.kept (below_drew (Below.refl _ _))⟩
      have HS:(fun W=>W.heap[gb]? = some (.cells #[.int .i64 p.f0,.int .i64 p.f1,.slice A p.f2.length c] 41 (0,0))∧W.heap[bt]? = some (.cells #[.map (some mt)] 37 (0,0))) w1.drew:=⟨HX.out,HV.out.ct⟩
      have hbg:gb≠bl:=blk_ne HX.out HV.out.cl (by decide)
      clear x0 x1 y0 y2 HTk HX HV
      generalize w1.drew=wx at HS HVd ⊢
      refine tK (v:=.map (some mt)) 0 HS (fun w9 h9=>?hy) ?_
      case hy=>(have z:=(blk_cell h9.2 0).trans rfl;go_simp)
      try simp only [Act.put,zA,zB,zC]
      refine tK (v:=.pointer (some ⟨gb,1,none⟩)) 1 HS (fun w9 h9=>?hy) ?_
      case hy=>(skip;go_simp)
      try simp only [Act.put,zA,zB,zC]
      refine tK (v:=.int .i64 p.f1) 2 HS (fun w9 h9=>?hy) ?_
      case hy=>(have z:=(blk_cell h9.1 1).trans rfl;go_simp)
      try simp only [Act.put,zA,zB,zC]
      refine tK (v:=.pointer (some ⟨gb,0,none⟩)) 3 HS (fun w9 h9=>?hy) ?_
      case hy=>(skip;go_simp)
      try simp only [Act.put,zA,zB,zC]
      refine tK (v:=.int .i64 p.f0) 4 HS (fun w9 h9=>?hy) ?_
      case hy=>(have z:=(blk_cell h9.1 0).trans rfl;go_simp)
      try simp only [Act.put,zA,zB,zC]
      refine only_held 5 rfl (by kernel_rfl) (fun K hK=>?_)
      obtain ⟨n5,hm5o⟩:=HVd.out.tk
      refine step_store (by rfl) (.tmp 36) (.tmp 38) (.const (.bool true)) 37 rfl 3 4 keyInt Try.underlying37 mt n5 (intF Value.bool tk) (by rfl) hm5o (.int .i64 p.f1) (.bool true) (.int .i64 p.f1) (by rfl) (by rfl) (okI_key HOK.out.1) ?_
      intro w5 hm5 hg5
      rw [intF_put] at hm5
      have HV5:Aside0 (VAt w0 w5 bl br bt mr mt ro (putT tk p) la):=⟨HVd.out.put hg5 hm5⟩
      have HS5:(fun W=>W.heap[gb]? = some (.cells #[.int .i64 p.f0,.int .i64 p.f1,.slice A p.f2.length c] 41 (0,0))∧W.heap[bt]? = some (.cells #[.map (some mt)] 37 (0,0))) w5:=⟨(hg5.block gb (blk_lt HS.1) (fun e=>map_ne hm5o HS.1 (Option.some.inj e))).trans HS.1,HV5.out.ct⟩
      clear hm5 hg5 hm5o
      refine hK.out _ _ HS5 ?_
      try simp only [Act.put,zA,zB,zC]
      clear hK K
      replace HS:=HS5
      clear HS5 HVd
      have z1:w5.cell? ⟨bl,0,none⟩=some (.int .i64 la):=(blk_cell HV5.out.cl 0).trans rfl
      have z2:=blk_frozen HV5.out.cl 0
      have HV6:=zF (HV5.out.last p.f0)
      have HS6:(fun W=>W.heap[gb]? = some (.cells #[.int .i64 p.f0,.int .i64 p.f1,.slice A p.f2.length c] 41 (0,0))∧W.heap[bt]? = some (.cells #[.map (some mt)] 37 (0,0))) (w5.setCell ⟨bl,0,none⟩ (.int .i64 p.f0)):=⟨blk_far HS.1 hbg _,HV6.out.ct⟩
      clear HS HV5 hbg
      refine only_held 6 rfl (by kernel_rfl) (fun K hK=>?_)
      rw [if_pos (by rfl)]
      go_simp
      refine hK.out _ _ HS6 ?_
      try simp only [Act.put,zA,zB,zC]
      clear hK K z1 z2
      have HX6:=zF HS6.1
      clear HS6
      generalize w5.setCell ⟨bl,0,none⟩ (.int .i64 p.f0)=w6 at HV6 HX6 ⊢
      refine done_held (by kernel_rfl) ?_
      have HM6:=zF (MapAt.made w6 Try.prog 3)
      rw [show (fun _=>none:Value→Option Value)=intF Value.bool (fun _=>none) from intF_none Value.bool] at HM6
      have HV7:=zF (HV6.out.kept (below_alloc (Below.refl w6.heap.size w6) (.map #[] 0)))
      have HF2:Aside0 (fb=wantsB ro (fun _=>none) p.f2):=⟨by rw [HF.out,HN.out];rfl⟩
      have HSz:Aside0 (w0.heap.size≤w6.heap.size∧mr≠w6.heap.size∧mt≠w6.heap.size):=⟨⟨HV6.out.below.size,fun e=>by obtain ⟨n,hn⟩:=HV6.out.ro;have:=hn.lt;omega,fun e=>by obtain ⟨n,hn⟩:=HV6.out.tk;have:=hn.lt;omega⟩⟩
      have HX7:Aside0 ((w6.alloc (.map #[] 0)).heap[gb]? = some (.cells #[.int .i64 p.f0,.int .i64 p.f1,.slice A p.f2.length c] 41 (0,0))):=⟨blk_alloc HX6.out _⟩
      clear HF HN HV6 HX6
      go_upto_region 5 with (fail)
      generalize w6.alloc (.map #[] 0)=w7 at HM6 HV7 HX7 ⊢
      have z3:w7.cell? ⟨gb,2,none⟩=some (.slice A p.f2.length c):=(blk_cell HX7.out 2).trans rfl
      go_wp2
      clear z3
      go_loopg [8,45] p.f2.length (fun gk _ v45 w'=>∃ i:Nat,v45 = .int .i64 i∧Aside0 (i≤p.f2.length∧gk=p.f2.length - i)∧Aside0 (∃ sn,fb=wantsB ro sn (p.f2.drop i)∧∃ n,MapAt w' Try.prog 3 w6.heap.size (intF Value.bool sn) n)∧Aside0 (VAt w0 w' bl br bt mr mt ro (putT tk p) p.f0))
      case atStart=>exact ⟨0,rfl,⟨Nat.zero_le _,rfl⟩,⟨_,by rw [List.drop_zero];exact HF2.out,_,HM6.out⟩,HV7⟩
      case round =>
       clear HF2 HM6 HV7 hmm
       obtain ⟨i,rfl,HI,HE,HV⟩:=hrel
       have hi:=HI.out.1
       by_cases hlt:i < p.f2.length
       ·
        obtain ⟨ad,e,y⟩:=intC_at HR.out (i:=i) hlt
        subst e
        replace y:=pw_cell_below HV.out.below y
        have y1:wr.cell? ⟨br,0,none⟩=some (.map (some mr)):=(blk_cell HV.out.cr 0).trans rfl
        obtain ⟨sn,hE,ns,hM⟩:=HE.out
        obtain ⟨nr,hro⟩:=HV.out.ro
        have HRo:=zF hro
        have HM:=zF hM
        have HKo:=zF (HOK.out.2 _ (rd_mem hlt))
        have HS:=zF (hE.trans (wantsB_step hlt))
        have HLT:=zF hlt
        clear hro hM hE HE
        generalize rd p.f2 (i:Int)=f at *
        obtain ⟨rv,hrv⟩:∃ rv,(ro f).getD 0=rv:=⟨_,rfl⟩
        obtain ⟨sv,hsv⟩:∃ sv,(sn f).getD false=sv:=⟨_,rfl⟩
        rw [hrv,hsv] at HS
        have HRv:=zF hrv
        have HSv:=zF hsv
        clear hrv hsv
        cases h4:(rv == 0) with
        | true =>
         have HN:Aside0 (fb=false):=⟨by rw [HS.out,h4];simp⟩
         go_wp2_with (first|(at_lookup;(try (refine gate_guard (by rfl) ?_;dsimp only));refine wpList_lookI (by rfl) (.tmp 49) (.tmp 50) (by rfl) mr nr ro (by rfl) HRo.out f (by rfl) HKo.out rv HRv.out ?_)|(at_lookup;(try (refine gate_guard (by rfl) ?_;dsimp only));refine wpList_lookB (by rfl) (.tmp 54) (.tmp 55) (by rfl) w6.heap.size ns sn (by rfl) HM.out f (by rfl) HKo.out _ HSv.out ?_))
         go_ret
         exact ⟨by rw [HN.out];rfl,HV.out.below,fun e=>by rw [HN.out] at e;cases e⟩
        | false =>
         cases sv with
         | true =>
          have HN:Aside0 (fb=false):=⟨by rw [HS.out,h4];simp⟩
          go_wp2_with (first|(at_lookup;(try (refine gate_guard (by rfl) ?_;dsimp only));refine wpList_lookI (by rfl) (.tmp 49) (.tmp 50) (by rfl) mr nr ro (by rfl) HRo.out f (by rfl) HKo.out rv HRv.out ?_)|(at_lookup;(try (refine gate_guard (by rfl) ?_;dsimp only));refine wpList_lookB (by rfl) (.tmp 54) (.tmp 55) (by rfl) w6.heap.size ns sn (by rfl) HM.out f (by rfl) HKo.out _ HSv.out ?_))
          go_ret
          exact ⟨by rw [HN.out];rfl,HV.out.below,fun e=>by rw [HN.out] at e;cases e⟩
         | false =>
          have HN:Aside0 (fb=wantsB ro (fun j=>if j=f then some true else sn j) (p.f2.drop (i + 1))):=⟨by rw [HS.out,h4];simp⟩
          clear HS
          go_upto_region 10 with (first|(at_lookup;(try (refine gate_guard (by rfl) ?_;dsimp only));refine wpList_lookI (by rfl) (.tmp 49) (.tmp 50) (by rfl) mr nr ro (by rfl) HRo.out f (by rfl) HKo.out rv HRv.out ?_)|(at_lookup;(try (refine gate_guard (by rfl) ?_;dsimp only));refine wpList_lookB (by rfl) (.tmp 54) (.tmp 55) (by rfl) w6.heap.size ns sn (by rfl) HM.out f (by rfl) HKo.out _ HSv.out ?_))
          clear h4 y y1
          go_wp2_with (at_mapUpdate;refine wpList_store rfl (.tmp 58) (.tmp 59) (.const (.bool true)) 37 rfl 3 4 keyInt Try.underlying37 w6.heap.size ns (intF Value.bool sn) rfl HM.out (.int .i64 f) (.bool true) (.int .i64 f) rfl rfl (okI_key HKo.out) ?_;intro w8 hm8 hg8;rw [intF_put] at hm8;have HM8:=zF hm8;have HV8:=zF (HV.out.keptBy hg8 HSz.out.1 HM.out HSz.out.2.1 HSz.out.2.2);clear hm8 hg8)
          go_roundg (p.f2.length - (i + 1))
          case measure=>have:=HI.out;have:=HLT.out;omega
          case rel=>exact ⟨i + 1,by go_num,⟨by have:=HLT.out;omega,rfl⟩,⟨_,HN.out,_,HM8.out⟩,HV8⟩
       ·
        obtain rfl:i=p.f2.length:=by omega
        have HN:Aside0 (fb=true):=⟨by obtain ⟨sn,hE,_⟩:=HE.out;rw [hE,List.drop_length];rfl⟩
        go_wp2
        go_ret
        exact ⟨by rw [HN.out];rfl,HV.out.below,fun _=>HV.out⟩
end Go.Proofs.Ytjgnkhfgmpaljaa.P
namespace Go.Proofs.Ytjgnkhfgmpaljaa.P
open Go.RowKit Go.Proofs.YtjgnkhfgmpaljaaW.PrintWords Go.Proofs.YtjgnkhfgmpaljaaW.PrintLast Go.Proofs.YtjgnkhfgmpaljaaW.PrintMore Go.Proofs.Ytjgnkhfgmpaljaa.M
open Go.Maps (Keyed int_keyed keyOf_int_mk)
set_option linter.unusedVariables false
set_option linter.unusedSimpArgs false
def partiesB (ro:Int→Option Int):(Int→Option Bool)→Int→List S41→Bool
 | _,_,[]=>true
 | tk,la,p :: l=>fitsB ro tk la p && partiesB ro (putT tk p) p.f0 l
def validG (F:List S53) (P:List S41):Bool:=flatsB 0 F && partiesB (roomsF F) (fun _=>none) 0 P
theorem partiesB_step {ro:Int→Option Int} {tk:Int→Option Bool} {la:Int} {l:List S41} {i:Nat} (h:i < l.length):partiesB ro tk la (l.drop i)=(fitsB ro tk la (rd_T41 l (i:Int)) && partiesB ro (putT tk (rd_T41 l (i:Int))) (rd_T41 l (i:Int)).f0 (l.drop (i + 1))):=by
 rw [List.drop_eq_getElem_cons h,rd41_get h];rfl
theorem VAt.start {w0 w:World} {mr n:Nat} {ro:Int→Option Int} (hb:Below w0.heap.size w0 w) (hm:MapAt w Try.prog 3 mr (intF (Value.int .i64) ro) n) :
  VAt w0 ((((w.alloc (.cells #[.map (some mr)] 75)).alloc (.map #[] 0)).alloc (.cells #[.map (some (w.heap.size + 1))] 37)).alloc (.cells #[.int .i64 0] 3)) (w.heap.size + 1 + 1 + 1) w.heap.size (w.heap.size + 1 + 1) mr (w.heap.size + 1) ro (fun _=>none) 0:=by
 have hlt:=hm.lt
 have hsz:=hb.size
 have s1:(w.alloc (.cells #[.map (some mr)] 75)).heap.size=w.heap.size + 1:=World.size_alloc _ _
 have s2:((w.alloc (.cells #[.map (some mr)] 75)).alloc (.map #[] 0)).heap.size=w.heap.size + 1 + 1:=(World.size_alloc _ _).trans (by rw [s1])
 have s3:(((w.alloc (.cells #[.map (some mr)] 75)).alloc (.map #[] 0)).alloc (.cells #[.map (some (w.heap.size + 1))] 37)).heap.size=w.heap.size + 1 + 1 + 1:=(World.size_alloc _ _).trans (by rw [s2])
 refine ⟨below_alloc (below_alloc (below_alloc (below_alloc hb _) _) _) _,?_,?_,?_,⟨n,(((hm.alloc _).alloc _).alloc _).alloc _⟩,⟨0,?_⟩,by omega,by omega,by omega⟩
 ·
  have:=blk_new (((w.alloc (.cells #[.map (some mr)] 75)).alloc (.map #[] 0)).alloc (.cells #[.map (some (w.heap.size + 1))] 37)) (.cells #[.int .i64 0] 3)
  rwa [s3] at this
 ·
  exact blk_alloc (blk_alloc (blk_alloc (blk_new w _) _) _) _
 ·
  have:=blk_new ((w.alloc (.cells #[.map (some mr)] 75)).alloc (.map #[] 0)) (.cells #[.map (some (w.heap.size + 1))] 37)
  rw [s2] at this
  exact blk_alloc this _
 ·
  have:=MapAt.made (w.alloc (.cells #[.map (some mr)] 75)) Try.prog 3
  rw [s1,intF_none Value.bool] at this
  exact (this.alloc _).alloc _
set_option maxHeartbeats 16000000 in
set_option maxRecDepth 100000 in
theorem valid_calls (A0 A1:Option Addr) (c0 c1:Nat) (F:List S53) (P:List S41) (w:World) (hr0:Kd.C k53 w A0 F.length F) (hr1:Kd.C k41 w A1 P.length P) (hok0:∀ x ∈ F,okI x.f0∧okI x.f1) (hok1:∀ p ∈ P,okI p.f1∧∀ f ∈ p.f2,okI f) :
  Calls Try.prog 42 #[.agg #[.slice A0 F.length c0,.slice A1 P.length c1]] w (RetB w (validG F P)):=by
 obtain ⟨vb,hvb⟩:∃ vb,validG F P=vb:=⟨_,rfl⟩
 have HVb:=zF hvb
 rw [hvb]
 clear hvb
 have HR0:=zF hr0
 have HR1:=zF hr1
 have hml:=hr1.2.1
 have HOK0:=zF hok0
 have HOK1:=zF hok1
 have hmm:=@run_makeMap Try.prog
 have hu25:=Try.underlying25
 have hu41:=Try.underlying41
 clear hr0 hr1 hok0 hok1
 go_enter Try.func42,Try.ntmps42
 go_upto_region 1 with ((with_reducible refine gate_dst (N:=1) rfl ?_);(try (refine gate_guard (by rfl) ?_;dsimp only));refine box_event ?hg (N:=1) ?hd (cs:=#[.slice A0 F.length c0,.slice A1 P.length c1]) (t:=25) ?hr ?_;(case hd=>rfl);(case hg=>rfl);(case hr=>first|(go_simp;done)|(go_simp;rfl));intro gb hgb w1 hbox hb;have HX:=zF hbox;have HB1:=zF hb;have HGB:=zF (show w.heap.size≤gb by rw [hgb];exact Nat.le_refl _);clear hbox hb hgb)
 have x0:w1.cell? ⟨gb,0,none⟩=some (.slice A0 F.length c0):=(blk_cell HX.out 0).trans rfl
 have HFl:=zF (flats_calls A0 c0 F w1 (Kd.C_below HR0.out HB1.out) HOK0.out)
 cases hfb:flatsB 0 F with
 | false =>
  have HFb:=zF hfb
  have HN:Aside0 (vb=false):=⟨by rw [← HVb.out];unfold validG;rw [hfb];rfl⟩
  clear hfb
  go_wp2_with (go_at_call 68;(with_reducible refine HFl.out.mono ?_);rintro e w2 (⟨h,_⟩|⟨_,rfl,hb⟩);(exact absurd (h.symm.trans HFb.out) (by decide));have HB2:=zF (below_then HB1.out HB1.out.size hb);clear hb)
  go_ret
  exact ⟨by rw [HN.out];rfl,below_alloc HB2.out _⟩
 | true =>
  have HFb:=zF hfb
  have HN:Aside0 (vb=partiesB (roomsF F) (fun _=>none) 0 P):=⟨by rw [← HVb.out];unfold validG;rw [hfb];rfl⟩
  clear hfb
  go_upto_region 4 with (go_at_call 68;(with_reducible refine HFl.out.mono ?_);rintro e w2 (⟨_,mr,nr,rfl,hsz,hm,hb⟩|⟨h,_⟩);rotate_left;(exact absurd (h.symm.trans HFb.out) (by decide));have HB2:=zF (below_then HB1.out HB1.out.size hb);have HM2:=zF hm;have HX2:=zF (blk_below HX.out hb);clear hb hm)
  clear x0 HFl HX
  go_upto_region 6 with (fail)
  have HV:=zF (VAt.start (w0:=w) HB2.out HM2.out)
  have HX6:Aside0 (((((w2.alloc (.cells #[.map (some mr)] 75)).alloc (.map #[] 0)).alloc (.cells #[.map (some (w2.heap.size + 1))] 37)).alloc (.cells #[.int .i64 0] 3)).heap[gb]? = some (.cells #[.slice A0 F.length c0,.slice A1 P.length c1] 25 (0,0))):=⟨blk_alloc (blk_alloc (blk_alloc (blk_alloc HX2.out _) _) _) _⟩
  generalize (((w2.alloc (.cells #[.map (some mr)] 75)).alloc (.map #[] 0)).alloc (.cells #[.map (some (w2.heap.size + 1))] 37)).alloc (.cells #[.int .i64 0] 3)=w6 at HV HX6 ⊢
  clear HB2 HM2 HX2 hmm
  generalize w2.heap.size + 1 + 1 + 1=bl at *
  generalize w2.heap.size + 1 + 1=bt at *
  generalize w2.heap.size + 1=mt at *
  generalize w2.heap.size=br at *
  have z1:w6.cell? ⟨gb,1,none⟩=some (.slice A1 P.length c1):=(blk_cell HX6.out 1).trans rfl
  go_wp2
  clear z1 HX6
  go_loopg [9,23] P.length (fun gk _ v23 w'=>∃ i:Nat,v23 = .int .i64 i∧Aside0 (i≤P.length∧gk=P.length - i)∧Aside0 (∃ tk la,vb=partiesB (roomsF F) tk la (P.drop i)∧VAt w w' bl br bt mr mt (roomsF F) tk la))
  case atStart=>exact ⟨0,rfl,⟨Nat.zero_le _,rfl⟩,⟨_,_,by rw [List.drop_zero];exact HN.out,HV.out⟩⟩
  case round =>
   clear HN HV
   obtain ⟨i,rfl,HI,HE⟩:=hrel
   have hi:=HI.out.1
   obtain ⟨tk,la,hE,hV⟩:=HE.out
   have HV:=zF hV
   have HEq:=zF hE
   clear hE hV HE
   by_cases hlt:i < P.length
   ·
    obtain ⟨ad,A2,c2,e,x0,x1,x2,l2,g2⟩:=at_T41 HR1.out (i:Int) (by omega) (by omega)
    subst e
    simp only [Int.toNat_natCast] at x0 x1 x2
    replace x0:=pw_cell_below HV.out.below x0
    replace x1:=pw_cell_below HV.out.below x1
    replace x2:=pw_cell_below HV.out.below x2
    have HS:=zF (HEq.out.trans (partiesB_step hlt))
    have HOp:=zF (HOK1.out _ (rd41_mem hlt))
    have HLT:=zF hlt
    have HG2:=zF g2
    clear HEq g2
    generalize rd_T41 P (i:Int)=p at *
    have HCl:=zF (fun (W:World) (hb:Below wr.heap.size wr W)=>fits_calls (HV.out.kept hb) p A2 c2 HG2.out HOp.out)
    obtain ⟨fb,hfb⟩:∃ fb,fitsB (roomsF F) tk la p=fb:=⟨_,rfl⟩
    rw [hfb] at HS HCl
    clear hfb
    cases fb with
    | false =>
     have HNo:Aside0 (vb=false):=⟨by rw [HS.out];rfl⟩
     go_wp2_with (go_at_call 69;(with_reducible refine (HCl.out _ (below_alloc (Below.refl _ _) _)).mono ?_);rintro e w7 ⟨rfl,hb,_⟩;have HB7:=zF hb;clear hb)
     go_ret
     exact ⟨by rw [HNo.out];rfl,HB7.out⟩
    | true =>
     have HYes:Aside0 (vb=partiesB (roomsF F) (putT tk p) p.f0 (P.drop (i + 1))):=⟨by rw [HS.out];rfl⟩
     go_wp2_with (go_at_call 69;(with_reducible refine (HCl.out _ (below_alloc (Below.refl _ _) _)).mono ?_);rintro e w7 ⟨rfl,_,hv⟩;have HV7:=zF (hv rfl);clear hv)
     go_roundg (P.length - (i + 1))
     case measure=>have:=HI.out;have:=HLT.out;omega
     case rel=>exact ⟨i + 1,by go_num,⟨by have:=HLT.out;omega,rfl⟩,⟨_,_,HYes.out,HV7.out⟩⟩
   ·
    obtain rfl:i=P.length:=by omega
    have HYes:Aside0 (vb=true):=⟨by rw [HEq.out,List.drop_length];rfl⟩
    go_wp2
    go_ret
    exact ⟨by rw [HYes.out];rfl,HV.out.below⟩
end Go.Proofs.Ytjgnkhfgmpaljaa.P
namespace Go.Proofs.Ytjgnkhfgmpaljaa.P
open Go.RowKit Go.Proofs.YtjgnkhfgmpaljaaW.PrintWords Go.Proofs.YtjgnkhfgmpaljaaW.PrintLast Go.Proofs.YtjgnkhfgmpaljaaW.PrintMore Go.Proofs.Ytjgnkhfgmpaljaa.M
set_option linter.unusedVariables false
set_option linter.unusedSimpArgs false
/-- The blocks that put may write. -/
def PutW (W:World) (k:Nat):Prop:=∃ q,(q=47 ∨ q=39)∧∃ cells,W.heap[k]? = some (.cells cells q (0,0))
def putZ (c:Bool) (x:List S39) (l:List S47):List S47:=if c=true then putM x l else l ++ [⟨false,x⟩]
theorem putW_back {w W:World} {k:Nat} (hb:Below w.heap.size w W) (h:PutW W k):PutW w k ∨ w.heap.size≤k:=by
 by_cases hk:k < w.heap.size
 ·
  obtain ⟨q,hq,cells,hc⟩:=h
  exact .inl ⟨q,hq,cells,by rw [← hb.block k hk];exact hc⟩
 ·
  exact .inr (by omega)
theorem keptP_back {w W w2:World} (hb:Below w.heap.size w W) (h:Kept W w2 (PutW W)):Kept w w2 (PutW w):=(Kept.of_below hb _).then_ h (fun k hk=>putW_back hb hk)
def PutPost (w0 w:World) (rg':List S47) (e:Ending) (w':World):Prop :=
 ∃ v:Value,e = .returned v∧Kd.S k47 47 w' w0.heap.size (fun _=>True) v rg'∧Below w0.heap.size w0 w'∧Kept w w' (PutW w)
theorem put_more {w0 wr wx w2:World} {gR cR g1 c1 j:Nat} {l:List S47} {mv:List S39} {r:S47} {oki:Nat→Prop} {v2:Value} {cells:Array Value} (hSr:Kd.S k47 47 wr w0.heap.size (fun _=>True) (.slice (some ⟨gR,0,none⟩) l.length cR) l) (hj:j < l.length)
  (hgR:wr.heap[gR]? = some (.cells cells 47 (0,0))) (hR1:Kd.R k39 39 wr w0.heap.size oki (.slice (some ⟨g1,0,none⟩) r.f1.length c1) r.f1)
  (hH:Kd.H k47 47 wr w0.heap.size (fun _=>True) (.slice (some ⟨gR,0,none⟩) l.length cR) l (j:Int) oki [.bool r.f0,.slice (some ⟨g1,0,none⟩) r.f1.length c1])
  (hbx:Below wr.heap.size wr wx) (hg:wx.grownBy w2 (some g1)) (hb2:Below w0.heap.size w0 w2) (ho:Kd.R k39 39 w2 w0.heap.size (fun k=>oki k ∨ True∧wx.heap.size≤k) v2 (r.f1 ++ mv)) :
  Kd.S k47 47 (w2.setCell ⟨gR,j * 2 + 1,none⟩ v2) w0.heap.size (fun _=>True) (.slice (some ⟨gR,0,none⟩) l.length cR) (l.set j ⟨r.f0,r.f1 ++ mv⟩)∧Below w0.heap.size w0 (w2.setCell ⟨gR,j * 2 + 1,none⟩ v2)∧Kept wr (w2.setCell ⟨gR,j * 2 + 1,none⟩ v2) (PutW wr) ∧
   w2.heap[gR]? = wr.heap[gR]?:=by
 have hn1:gR≠g1:=fun e=>by
  have:=Kd.R_ne hR1 hgR (by decide)
  exact this (by rw [e];simp [Value.ownBlock])
 have e1:w2.heap[gR]? = wr.heap[gR]?:=(hg.block gR (Nat.lt_of_lt_of_le (blk_lt hgR) hbx.size) (fun e=>hn1 (Option.some.inj e))).trans (hbx.block gR (blk_lt hgR))
 have hHx:=Kd.H_grown (Kd.H_widen (Kd.H_below hH hbx)) hg (fun k hk=>.inl (hR1.1 k (by rw [← hk];simp [Value.ownBlock])))
 have hb0:w0.heap.size≤gR:=Kd.S_base hSr gR (by simp [Value.ownBlock])
 have hS:=(Kd.S_seg (okg:=fun _=>False) (Kd.H_mono hHx (ok':=fun k=>True∧¬ False) (fun k hk=>⟨hk,not_false⟩)) (by omega) (by omega) (seg:=[v2]) (j:=1) (show 1 + 1≤2 from Nat.le_refl _) (x':=⟨r.f0,r.f1 ++ mv⟩)
  (k47_mkM w2 w0.heap.size (fun k=>oki k ∨ True∧wx.heap.size≤k) ⟨r.f0,r.f1 ++ mv⟩ ho) (fun k hk=>.inl hk) (fun k hk=>hk.elim)).1
 have hS':Kd.S k47 47 (w2.setCell ⟨gR,j * 2 + 1,none⟩ v2) w0.heap.size (fun _=>True) (.slice (some ⟨gR,0,none⟩) l.length cR) (l.set j ⟨r.f0,r.f1 ++ mv⟩):=hS
 have hk:Kept wr (w2.setCell ⟨gR,j * 2 + 1,none⟩ v2) (PutW wr):=by
  refine Kept.setCell (Kept.of_grown hg (Kept.of_below hbx _) (fun k hk=>?_)) (.inl ⟨47,.inl rfl,cells,hgR⟩) v2
  cases hk
  obtain ⟨cells1,hc1⟩:=own_typed hR1.2.choose_spec.1 g1 (by simp [Value.ownBlock])
  exact .inl ⟨39,.inr rfl,cells1,hc1⟩
 exact ⟨hS',hb2.setCell hb0 _,hk,e1⟩
set_option maxHeartbeats 16000000 in
set_option maxRecDepth 100000 in
theorem rput_calls {w0 w:World} {M:Nat} (vR vx:Value) (l:List S47) (c:Bool) (mv:List S39) (hS:Kd.S k47 47 w w0.heap.size (fun k=>True∧k < M) vR l) (hx:Kd.R k39 39 w M (fun _=>True) vx mv) (hM:w0.heap.size≤M) (hb:Below w0.heap.size w0 w)
  (hl:l.length≤100) (hr:∀ r ∈ l,r.f1≠[]∧r.f1.length≤6400) (hm0:0 < mv.length) (hm64:mv.length≤64) :
  Calls Try.prog 51 #[vR,.agg #[.bool c,vx]] w (PutPost w0 w (putZ c mv l)):=by
 obtain ⟨AR,cR,rfl,lR,_⟩:=Kd.S_reads hS
 obtain ⟨A6,c6,rfl,l6,C6⟩:=Kd.R_reads hx
 have HS:=zF hS
 have HX:=zF hx
 have HC:=zF C6
 have HL6:=zF l6
 have HM:=zF hM
 have HB:=zF hb
 have HR:=zF hr
 have hu47:=Try.underlying47
 clear hS hx hM hb hr C6 l6 lR
 go_enter Try.func51,Try.ntmps51
 go_wp2_with ((with_reducible refine gate_dst (N:=3) rfl ?_);refine box_event ?hg (N:=3) ?hd (cs:=#[.bool c,.slice A6 mv.length c6]) (t:=47) ?hr ?_;(case hd=>rfl);(case hg=>rfl);(case hr=>first|(go_simp;done)|(go_simp;rfl));intro gx hg w1 hbox hb;have K1:=zF hbox;have B1:=zF hb;have E1:=zF hg;clear hbox hb hg)
 have HBr0:=zF (Below.refl w1.heap.size w1)
 go_loopg [5,6] l.length (fun gk v5 _ w'=>∃ j:Nat,v5 = .int .i64 j∧Aside0 (j≤l.length∧gk=l.length - j)∧Aside0 (putM mv l=l.take j ++ putM mv (l.drop j))∧Aside0 (Below w1.heap.size w1 w'))
 case atStart=>exact ⟨0,rfl,⟨Nat.zero_le _,rfl⟩,⟨by rw [List.take_zero,List.drop_zero];rfl⟩,HBr0⟩
 case round =>
  clear HBr0
  obtain ⟨j,rfl,HJ,HP,HBr⟩:=hrel
  have hj:=HJ.out.1
  have KX:=zF (blk_below K1.out HBr.out)
  have b0:=(blk_cell KX.out 0).trans rfl
  have b1:=(blk_cell KX.out 1).trans rfl
  have HBw:=zF (below_step B1.out HBr.out)
  have HB7:=zF (below_step HB.out HBw.out)
  have HS7:=zF (Kd.S_below HS.out HBw.out)
  have HX7:=zF (Kd.R_below HX.out HBw.out)
  have HC7:=zF (Kd.C_below HC.out HBw.out)
  by_cases hlt2:j < l.length
  ·
   have hjl:(j:Int) < (l.length:Int):=by omega
   cases c with
   | false =>
    have HE:Aside0 (putZ false mv l=l ++ [⟨false,mv⟩]):=⟨rfl⟩
    have HM7:=zF (k47_mkM wr w0.heap.size (fun k=>some k=(Value.slice A6 mv.length c6).ownBlock) ⟨false,mv⟩ (Kd.R_lower (R39_tight HX7.out) HM.out))
    have Q2:Aside0 (∀ k,some k=(Value.slice A6 mv.length c6).ownBlock→True∧some k≠(Value.slice AR l.length cR).ownBlock):=⟨fun k hk=>⟨trivial,fun e=>by have h1:=(HS7.out.choose_spec.1 k e.symm).2;have h2:=Kd.R_base HX7.out k hk.symm;omega⟩⟩
    have HS8:Aside0 (Kd.S k47 47 wr w0.heap.size (fun k=>True∧¬ some k=(Value.slice A6 mv.length c6).ownBlock) (.slice AR l.length cR) l):=⟨Kd.S_mono HS7.out (fun k hk=>⟨trivial,fun e=>by have h2:=Kd.R_base HX7.out k e.symm;have h3:=hk.2;omega⟩)⟩
    have Q3:Aside0 ((l.length + 1) * 32≤140737488355328):=⟨by omega⟩
    go_wp2_with (((with_reducible refine gate_builtin (b:=.append) (xs:=#[.tmp 59,.tmp 61]) rfl ?_);at_builtin;refine Kd.S_append k47 (w0:=w0) w0.heap.size rfl (.tmp 59) (.tmp 61) 30 47 (.agg #[(.bool false),(.slice none 0 0)]) 32 rfl Try.underlying30 info47 rfl (by decide) (by omega) (.slice AR l.length cR) l ⟨false,mv⟩ [.bool false,.slice A6 mv.length c6] (fun _=>True) (fun k=>some k=(Value.slice A6 mv.length c6).ownBlock) rfl rfl HM7.out Q2.out (fun _ _=>trivial) HS8.out HB7.out HB7.out.size Q3.out ?_;intro v8 w8 ho hb hg hat;have HO8:=zF (And.intro ho (And.intro hb hg));clear ho hb hg hat))
    go_ret
    exact ⟨v8,rfl,by rw [HE.out];exact HO8.out.1,HO8.out.2.1,keptP_back HBw.out (Kept.of_grown HO8.out.2.2 (Kept.refl _ _) (fun k hk=>.inl ⟨47,.inl rfl,Kd.S_typed HS7.out k hk⟩))⟩
   | true =>
    obtain ⟨gR,capR,ev,_,_,cellsR,hgR⟩:=Kd.S_form HS7.out (by omega)
    injection ev with ev1 ev2 ev3
    subst ev1
    subst ev3
    have HgR:=zF hgR
    have HST:=zF (Kd.S_mono HS7.out (ok':=fun _=>True) (fun _ _=>trivial))
    obtain ⟨oki,cc,hcl,hM,hcc,hfr,hoki,hH⟩:=Kd.S_elem HST.out z47 (j:Int) (by omega) (by omega)
    have HMem:=zF (rd47_mem hlt2)
    have HRo:=zF (HR.out _ HMem.out)
    obtain ⟨v1,ec,hR1⟩:=k47_openM hM
    subst ec
    have er:l.getD (j:Int).toNat z47=rd_T47 l (j:Int):=rfl
    rw [er] at hM hR1 hcc hH
    have HSk:=zF (putM_skip mv l j hlt2 HP.out)
    have HPu:=zF (putM_put mv l j hlt2 HP.out)
    generalize rd_T47 l (j:Int)=r at *
    obtain ⟨A1,c1,ev1,l1,C1⟩:=Kd.R_reads hR1
    subst ev1
    have HC1r:=zF C1
    have HR1:=zF hR1
    have HHj:=zF hH
    have HOk:=zF hoki
    have x0:wr.cell? ⟨gR,j * 2,none⟩=some (.bool r.f0):=hcc 0 _ rfl
    have x1:wr.cell? ⟨gR,j * 2 + 1,none⟩=some (.slice A1 r.f1.length c1):=hcc 1 _ rfl
    have hfr1:wr.frozen? ⟨gR,j * 2 + 1,none⟩=false:=hfr 1
    have HX1:=zF (And.intro x1 hfr1)
    obtain ⟨hr1,hr2⟩:=HRo.out
    have hrp:0 < r.f1.length:=List.length_pos_iff.2 hr1
    have hr64:r.f1.length≤6400:=by omega
    clear hcl hM hcc hfr hoki hH hR1 C1 hgR er hfr1 hr1 hr2
    go_upto_region 5 with (fail)
    have HB0:Aside0 (r.f0=r.f0):=⟨rfl⟩
    cases hb0:r.f0 with
    | false =>
     rw [hb0] at x0
     have HPn:=zF (HSk.out (fun h=>by rw [hb0] at h;exact Bool.noConfusion h.1))
     clear hb0
     go_quiet (fail)
     go_wp2
     go_roundg (l.length - (j + 1))
     case measure=>have:=HJ.out;omega
     case rel=>exact ⟨j + 1,by go_num,⟨by omega,rfl⟩,HPn,⟨pw_below_drewN HBr.out _⟩⟩
    | true =>
     rw [hb0] at x0
     have HB0:=zF hb0
     clear hb0
     obtain ⟨ad1,e1,_,z1,_⟩:=at_T39 HC1r.out ((r.f1.length:Int) - 1) (by omega) (by omega)
     obtain ⟨ad6,e6,_,_,z6⟩:=at_T39 HC7.out (0:Int) (by omega) (by omega)
     have HLa:Aside0 (lastF r.f1=(rd_T39 r.f1 ((r.f1.length:Int) - 1)).f1):=⟨rfl⟩
     have et:((r.f1.length:Int) - 1).toNat=r.f1.length - 1:=by omega
     have hw1:IntKind.i64.wrap ((r.f1.length:Int) - 1)=(r.f1.length:Int) - 1:=Go.IntWalk.i64_in _ (by omega)
     have hl0:(0:Int)≤(r.f1.length:Int) - 1:=by omega
     have hl1:(r.f1.length:Int) - 1 < (r.f1.length:Int):=by omega
     obtain ⟨g1,k1,ef1,_⟩:=Kd.R_form HR1.out hrp
     obtain ⟨g6,k6,ef6,_⟩:=Kd.R_form HX7.out hm0
     injection ef1 with ef1 _ ef1c
     injection ef6 with ef6 _ ef6c
     subst ef1
     subst ef6
     subst ef1c
     subst ef6c
     cases e1
     cases e6
     have hm0':(0:Int) < (mv.length:Int):=by omega
     rw [et,add_plain] at z1
     rw [show ((0:Int).toNat * 3)=0 from rfl,add_plain] at z6
     simp only [Nat.zero_add] at z6
     generalize (rd_T39 r.f1 ((r.f1.length:Int) - 1)).f1=y1 at *
     generalize (rd_T39 mv 0).f2=y6 at *
     cases hy:(y1 == y6) with
     | false =>
      have HPn:=zF (HSk.out (fun h=>by have h2:=h.2;rw [HLa.out] at h2;rw [h2] at hy;simp at hy))
      go_quiet (fail)
      go_wp2
      go_roundg (l.length - (j + 1))
      case measure=>have:=HJ.out;omega
      case rel=>exact ⟨j + 1,by go_num,⟨by omega,rfl⟩,HPn,⟨pw_below_drewN HBr.out _⟩⟩
     | true =>
      have HPp:=zF (HPu.out ⟨HB0.out,by rw [HLa.out];simpa using hy⟩)
      have HE:Aside0 (putZ true mv l=l.set j ⟨r.f0,r.f1 ++ mv⟩):=⟨HPp.out⟩
      go_quiet (fail)
      clear z1 z6 hy hw1 hl0 hl1 et hm0'
      go_upto_region 6 with (fail)
      have HBx:Aside0 (Below wr.heap.size wr (wr.drewN nq).drew):=⟨below_drew1 (pw_below_drewN (Below.refl _ _) _)⟩
      have HXb:Aside0 ((wr.drewN nq).drew.heap[gx]? = some (.cells #[.bool true,.slice (some ⟨g6,0,none⟩) mv.length c6] 47 (0,0))):=⟨KX.out⟩
      have HS0:(fun W=>W.cell? ⟨gR,j * 2 + 1,none⟩=some (.slice (some ⟨g1,0,none⟩) r.f1.length c1)∧W.cell? ⟨gx,1,none⟩=some (.slice (some ⟨g6,0,none⟩) mv.length c6)) (wr.drewN nq).drew:=⟨x1,b1⟩
      clear b0 b1 x0 x1
      refine wp_region_split 10 (fun W=>W.cell? ⟨gR,j * 2 + 1,none⟩=some (.slice (some ⟨g1,0,none⟩) r.f1.length c1)∧W.cell? ⟨gx,1,none⟩=some (.slice (some ⟨g6,0,none⟩) mv.length c6)) (by kernel_rfl) (by kernel_rfl) ?_
      simp only [List.take_succ_cons,List.take_zero,List.drop_succ_cons,List.drop_zero]
      have HS:=HS0
      clear HS0
      generalize (wr.drewN nq).drew=wx at HS HBx HXb ⊢
      refine tK (v:=.slice (some ⟨gR,0,none⟩) l.length cR) 0 HS (fun w9 h9=>?hy) ?_
      case hy=>(skip;go_simp)
      try simp only [Act.put,zA,zB,zC]
      refine tK (v:=.int .i64 j) 1 HS (fun w9 h9=>?hy) ?_
      case hy=>(skip;go_simp)
      try simp only [Act.put,zA,zB,zC]
      refine tK (v:=.slice (some ⟨gR,0,none⟩) l.length cR) 2 HS (fun w9 h9=>?hy) ?_
      case hy=>(skip;go_simp)
      try simp only [Act.put,zA,zB,zC]
      refine tK (v:=.int .i64 j) 3 HS (fun w9 h9=>?hy) ?_
      case hy=>(skip;go_simp)
      try simp only [Act.put,zA,zB,zC]
      refine tK (v:=.pointer (some ⟨gR,j * 2,none⟩)) 4 HS (fun w9 h9=>?hy) ?_
      case hy=>(skip;go_simp)
      try simp only [Act.put,zA,zB,zC]
      refine tK (v:=.pointer (some ⟨gR,j * 2 + 1,none⟩)) 5 HS (fun w9 h9=>?hy) ?_
      case hy=>(skip;go_simp)
      try simp only [Act.put,zA,zB,zC]
      refine tK (v:=.slice (some ⟨g1,0,none⟩) r.f1.length c1) 6 HS (fun w9 h9=>?hy) ?_
      case hy=>(obtain ⟨y1,y2⟩:=h9;go_simp)
      try simp only [Act.put,zA,zB,zC]
      refine tK (v:=.pointer (some ⟨gx,1,none⟩)) 7 HS (fun w9 h9=>?hy) ?_
      case hy=>(skip;go_simp)
      try simp only [Act.put,zA,zB,zC]
      refine tK (v:=.slice (some ⟨g6,0,none⟩) mv.length c6) 8 HS (fun w9 h9=>?hy) ?_
      case hy=>(obtain ⟨y1,y2⟩:=h9;go_simp)
      try simp only [Act.put,zA,zB,zC]
      refine only_held 9 rfl (by kernel_rfl) (fun K hK=>?_)
      have HRx:=zF (Kd.R_below HR1.out HBx.out)
      have HB9:=zF (below_step HB7.out HBx.out)
      have hb9s:=HB9.out.size
      refine Kd.R_append_rows_step k39 (Rr:=k39.K wx) (w0:=w0) w0.heap.size (by rfl) (.tmp 52) (.tmp 54) 29 39 (.agg #[(.int .i64 0),(.int .i64 0),(.int .i64 0)]) 24 (by rfl) Try.underlying29 info39 rfl (by decide) (by omega) (.slice (some ⟨g1,0,none⟩) r.f1.length c1) r.f1 mv (some ⟨g6,0,none⟩) mv.length c6 (fun k=>oki k ∨ True∧wx.heap.size≤k) (fun _=>False) (by rfl) (by rfl) (Kd.R_mono HRx.out (fun k hk=>.inl hk)) (Kd.C_below HC7.out HBx.out) (fun x cs h=>k39_KM _ _ x cs h) (fun _ h=>h.elim) (fun k hk=>.inr ⟨trivial,hk⟩) HB9.out hb9s (by omega) ?_
      intro v2 w2 ho hb hg hat
      obtain ⟨A8,c8,ev8⟩:=Kd.R_slice ho
      rw [List.length_append] at ev8
      subst ev8
      obtain ⟨HM1,HM2,HM3,HM4⟩:=put_more HST.out hlt2 HgR.out HR1.out HHj.out HBx.out hg hb ho
      have HM1:=zF HM1
      have HM2:=zF HM2
      have HM3:=zF HM3
      have z1:w2.cell? ⟨gR,j * 2 + 1,none⟩=some (.slice (some ⟨g1,0,none⟩) r.f1.length c1):=by rw [← HX1.out.1];simp only [World.cell?,HM4]
      have z2:w2.frozen? ⟨gR,j * 2 + 1,none⟩=false:=by rw [← HX1.out.2];simp only [World.frozen?,HM4]
      have HS2:w2.cell? ⟨gR,j * 2 + 1,none⟩=some (.slice (some ⟨g1,0,none⟩) r.f1.length c1)∧w2.cell? ⟨gx,1,none⟩=some (.slice (some ⟨g6,0,none⟩) mv.length c6):=by
       refine ⟨z1,?_⟩
       have hne:some gx≠(Value.slice (some ⟨g1,0,none⟩) r.f1.length c1).ownBlock:=Kd.R_ne HRx.out HXb.out (by decide)
       exact (blk_cell ((hg.block _ (blk_lt HXb.out) hne).trans HXb.out) 1).trans rfl
      have Z1:=zF (And.intro z1 z2)
      clear ho hb hg hat HM4 z1 z2
      refine hK.out _ _ HS2 ?_
      try simp only [Act.put,zA,zB,zC]
      clear hK K HS HS2
      refine done_held (by kernel_rfl) ?_
      show wpList _ _ _ _ _ _
      have z1:=Z1.out.1
      have z2:=Z1.out.2
      go_wp2
      go_ret
      exact ⟨_,rfl,by rw [HE.out];exact HM1.out,HM2.out,keptP_back HBw.out HM3.out⟩
  ·
   obtain rfl:j=l.length:=by omega
   have HPe:=zF (putM_end mv l HP.out)
   have HE:Aside0 (putZ c mv l=l ++ [⟨c,mv⟩]):=⟨by
    cases c with
    | true=>exact HPe.out
    | false=>rfl⟩
   have HM7:=zF (k47_mkM wr w0.heap.size (fun k=>some k=(Value.slice A6 mv.length c6).ownBlock) ⟨c,mv⟩ (Kd.R_lower (R39_tight HX7.out) HM.out))
   have Q2:Aside0 (∀ k,some k=(Value.slice A6 mv.length c6).ownBlock→True∧some k≠(Value.slice AR l.length cR).ownBlock):=⟨fun k hk=>⟨trivial,fun e=>by have h1:=(HS7.out.choose_spec.1 k e.symm).2;have h2:=Kd.R_base HX7.out k hk.symm;omega⟩⟩
   have HS8:Aside0 (Kd.S k47 47 wr w0.heap.size (fun k=>True∧¬ some k=(Value.slice A6 mv.length c6).ownBlock) (.slice AR l.length cR) l):=⟨Kd.S_mono HS7.out (fun k hk=>⟨trivial,fun e=>by have h2:=Kd.R_base HX7.out k e.symm;have h3:=hk.2;omega⟩)⟩
   have Q3:Aside0 ((l.length + 1) * 32≤140737488355328):=⟨by omega⟩
   go_wp2_with (((with_reducible refine gate_builtin (b:=.append) (xs:=#[.tmp 59,.tmp 61]) rfl ?_);at_builtin;refine Kd.S_append k47 (w0:=w0) w0.heap.size rfl (.tmp 59) (.tmp 61) 30 47 (.agg #[(.bool false),(.slice none 0 0)]) 32 rfl Try.underlying30 info47 rfl (by decide) (by omega) (.slice AR l.length cR) l ⟨c,mv⟩ [.bool c,.slice A6 mv.length c6] (fun _=>True) (fun k=>some k=(Value.slice A6 mv.length c6).ownBlock) rfl rfl HM7.out Q2.out (fun _ _=>trivial) HS8.out HB7.out HB7.out.size Q3.out ?_;intro v8 w8 ho hb hg hat;have HO8:=zF (And.intro ho (And.intro hb hg));clear ho hb hg hat))
   go_ret
   exact ⟨v8,rfl,by rw [HE.out];exact HO8.out.1,HO8.out.2.1,keptP_back HBw.out (Kept.of_grown HO8.out.2.2 (Kept.refl _ _) (fun k hk=>.inl ⟨47,.inl rfl,Kd.S_typed HS7.out k hk⟩))⟩
end Go.Proofs.Ytjgnkhfgmpaljaa.P
