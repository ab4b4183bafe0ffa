/- Lemmas, readings of functions as plain Lean functions and contracts of functions of the program, for the claimed theorem; each one's conditions stand in its statement. -/
import Derived.Test.YtjgnkhfgmpaljaaQTD15
import Derived.Test.YtjgnkhfgmpaljaaQTD16
namespace Go.Proofs.Ytjgnkhfgmpaljaa.P
open Go.RowKit Go.Proofs.YtjgnkhfgmpaljaaW.PrintWords Go.Proofs.YtjgnkhfgmpaljaaW.PrintLast Go.Proofs.YtjgnkhfgmpaljaaW.PrintMore Go.Proofs.Ytjgnkhfgmpaljaa.M
set_option linter.unusedVariables false
set_option linter.unusedSimpArgs false
def setsL (s:GS) (l:List Int):Nat→List Int
 | 0=>s.tos
 | k + 1=>(setsL s l k).set (rd l (k:Int)).toNat (wantS s (rd l (k:Int)))
def goK (l:List Int) (g:List Bool):Nat→List Bool
 | 0=>g
 | k + 1=>(goK l g k).set (rd l (k:Int)).toNat true
def takK (tos:List Int) (l:List Int) (t:Int→Option Bool):Nat→(Int→Option Bool)
 | 0=>t
 | k + 1=>fun f=>if f=rd tos (rd l (k:Int)) then some true else takK tos l t k f
def doneS (s:GS) (l:List Int):GS:={ s with rg:=recordS s l,tos:=setsL s l l.length,gone:=goK l s.gone l.length,tak:=takK (setsL s l l.length) l s.tak l.length }
def stepG (s:GS):GS:=leaveS (doneS s (cycleS s))
theorem setsL_len (s:GS) (l:List Int):∀ k,(setsL s l k).length=s.tos.length
 | 0=>rfl
 | k + 1=>by unfold setsL;rw [List.length_set,setsL_len s l k]
theorem goK_len (l:List Int) (g:List Bool):∀ k,(goK l g k).length=g.length
 | 0=>rfl
 | k + 1=>by unfold goK;rw [List.length_set,goK_len l g k]
theorem rd_setnat {l:List Int} {i:Nat} {x:Int} (h:i < l.length) (j:Int) (hj:0≤j):rd (l.set i x) j=if j=i then x else rd l j:=by
 unfold rd
 rw [List.getD_eq_getElem?_getD,List.getElem?_set,List.getD_eq_getElem?_getD]
 by_cases e:i=j.toNat
 ·
  rw [if_pos e,if_pos (by omega),if_pos (by omega)];rfl
 ·
  rw [if_neg e,if_neg (by omega)]
theorem setsL_ok {s:GS} (ok:GOk s) (l:List Int) (hl:∀ x ∈ l,0≤x∧x < s.P.length):∀ k,k≤l.length→∀ j,j < k→okI (rd (setsL s l k) (rd l (j:Int)))
 | 0,_,j,hj=>by omega
 | k + 1,hk,j,hj=>by
  obtain ⟨b0,b1⟩:=hl _ (rd_mem (show k < l.length by omega))
  obtain ⟨c0,c1⟩:=hl _ (rd_mem (show j < l.length by omega))
  have hlen:=setsL_len s l k
  have ht:=ok.tos
  unfold setsL
  rw [rd_setnat (by omega) _ c0]
  split
  ·
   obtain ⟨q,hq⟩:∃ q:Nat,rd l (k:Int)=q:=⟨(rd l (k:Int)).toNat,by omega⟩
   rw [hq];exact wantS_ok ok (by omega)
  ·
   rename_i hne
   by_cases e:j=k
   ·
    subst e;omega
   ·
    exact setsL_ok ok l hl k (by omega) j (by omega)
/-- What a party gets is set. -/
theorem GAt.tos_put {w0 W:World} {a:GA} {s:GS} {vR:Value} {bT cT i n:Nat} (h:GAt w0 W a s vR) (hv:a.vT = .slice (some ⟨bT,0,none⟩) n cT) (hi:i < n) (x:Int) :
  GAt w0 (W.setCell ⟨bT,i,none⟩ (.int .i64 x)) a { s with tos:=s.tos.set i x } vR:=by
 have hR:=h.tos
 rw [hv] at hR
 have hbT:(Value.slice (some ⟨bT,0,none⟩) n cT).ownBlock=some bT:=by simp [Value.ownBlock]
 obtain ⟨cells,hc⟩:=own_typed hR.2.choose_spec.1 bT hbT
 have hbase:=own_base hR.2.choose_spec.1 bT hbT
 have hput:Kd.R (Kd.int .i64) 3 (W.setCell ⟨bT,i,none⟩ (.int .i64 x)) w0.heap.size (fun _=>True) (.slice (some ⟨bT,0,none⟩) n cT) (s.tos.set i x):=by
  have:=Kd.R_putn hR (i:Int) x
  rwa [Int.toNat_natCast] at this
 have hng:a.g≠bT:=blk_ne h.blk hc (by decide)
 refine ⟨h.below.setCell hbase _,blk_far h.blk hng _,h.gb,h.tb,h.kb,h.par,h.parc,h.ord,h.ordc,?_,Kd.R_set h.gone hc (by decide) _ _,?_,?_,Kd.S_set h.rg hc (by decide) _ _,h.ne⟩
 ·
  obtain ⟨m,hm⟩:=h.ten
  refine ⟨m,hm.setCell (fun e=>?_) _⟩
  obtain ⟨es,cl,hb,_⟩:=hm
  have e:a.bt=bT:=e
  rw [e,hc] at hb;cases hb
 ·
  obtain ⟨m,hm⟩:=h.tak
  refine ⟨m,hm.setCell (fun e=>?_) _⟩
  obtain ⟨es,cl,hb,_⟩:=hm
  have e:a.bk=bT:=e
  rw [e,hc] at hb;cases hb
 ·
  show Kd.R (Kd.int .i64) 3 _ _ _ a.vT _
  rw [hv];exact hput
/-- A flat is taken. -/
theorem GAt.tak_put {w0 W W2:World} {a:GA} {s:GS} {vR:Value} {n:Nat} {t':Int→Option Bool} (h:GAt w0 W a s vR) (hg:W.grownBy W2 (some a.bk)) (hm:MapAt W2 Try.prog 3 a.bk (intF Value.bool t') n):GAt w0 W2 a { s with tak:=t' } vR:=by
 obtain ⟨m,hm0⟩:=h.tak
 have hnr:∀ {k:Nat} {cells:Array Value} {q:Nat},W.heap[k]? = some (.cells cells q (0,0))→some k≠some a.bk:=by
  intro k cells q hc e
  obtain ⟨es,cl,hb,_⟩:=hm0
  cases e
  rw [hc] at hb;cases hb
 have hbnd:∀ {k:Nat},(∃ q,q ∈ ([]:List Nat)∧∃ cells,W.heap[k]? = some (.cells cells q (0,0)))→some k≠some a.bk:=fun ⟨q,_,cells,hc⟩=>hnr hc
 refine ⟨h.below.grown hg h.below.size (fun k e=>by cases e;exact h.kb),(hg.block a.g h.lt (hnr h.blk)).trans h.blk,h.gb,h.tb,h.kb,h.par,h.parc,h.ord,h.ordc,?_,?_,⟨n,hm⟩,?_,?_,h.ne⟩
 ·
  obtain ⟨m2,hm2⟩:=h.ten
  exact ⟨m2,hm2.grown hg (fun e=>h.ne (Option.some.inj e))⟩
 ·
  refine Kd.R_mono (Kd.R_grown (Kd.R_bound h.gone) hg (fun k hk=>?_)) (fun _ _=>trivial)
  obtain ⟨_,_,_,q,_,cells,hc⟩:=hk
  exact hnr hc
 ·
  refine Kd.R_mono (Kd.R_grown (Kd.R_bound h.tos) hg (fun k hk=>?_)) (fun _ _=>trivial)
  obtain ⟨_,_,_,q,_,cells,hc⟩:=hk
  exact hnr hc
 ·
  refine Kd.S_mono (Kd.S_grown (Kd.S_bound h.rg) hg (fun k hk=>?_)) (fun _ _=>trivial)
  obtain ⟨_,_,_,q,_,cells,hc⟩:=hk
  exact hnr hc
theorem GAt.tosC {w0 w:World} {a:GA} {s:GS} {vR:Value} (h:GAt w0 w a s vR):∃ A c,a.vT = .slice A s.tos.length c∧s.tos.length≤c∧(Kd.int .i64).C w A s.tos.length s.tos:=Kd.R_reads h.tos
/-- A row of whole numbers that was made later than the game: it stays while the game's own blocks are written. -/
def LRow (w W:World) (v:Value) (l:List Int):Prop:=Kd.R (Kd.int .i64) 3 W w.heap.size (fun k=>w.heap.size≤k) v l
theorem LRow.of {w W:World} {v:Value} {l:List Int} {ok:Nat→Prop} (h:Kd.R (Kd.int .i64) 3 W w.heap.size ok v l):LRow w W v l:=Kd.R_mono (Kd.R_bound h) (fun k hk=>hk.2.1)
theorem LRow.below {w W W2:World} {v:Value} {l:List Int} (h:LRow w W v l) (hb:Below W.heap.size W W2):LRow w W2 v l:=Kd.R_below h hb
theorem LRow.set_ {w W:World} {v:Value} {l:List Int} (h:LRow w W v l) {p:Addr} (hp:p.block < w.heap.size) (u:Value):LRow w (W.setCell p u) v l:=Kd.R_far h (fun k hk e=>by omega) u
theorem LRow.grown {w W W2:World} {v:Value} {l:List Int} (h:LRow w W v l) {b:Nat} (hg:W.grownBy W2 (some b)) (hb:b < w.heap.size):LRow w W2 v l:=Kd.R_grown h hg (fun k hk e=>by cases e;omega)
theorem LRow.kept {w W W2:World} {v:Value} {l:List Int} {a:GA} {s:GS} {vR:Value} {w0:World} (h:LRow w W v l) (hG:GAt w0 W a s vR) (hk:Kept W W2 (RecW W a)):LRow w W2 v l:=by
 refine Kd.R_mono (Kd.R_kept (Kd.R_bound h) hk (fun k hk=>?_)) (fun k hk=>hk.1)
 obtain ⟨_,_,_,q,hq,cells,hc⟩:=hk
 refine recW_row hG hc (.inl ?_)
 have:q ∈ [3]:=hq
 simpa using this
set_option maxHeartbeats 16000000 in
set_option maxRecDepth 100000 in
theorem step_calls {w0 w:World} {a:GA} {s:GS} {vR:Value} (h:GAt w0 w a s vR) (ok:GOk s) (c:Nat) (hc:c≤100) (hrg:RgOk c s.rg) (hne:0 < (cycleS s).length∧(cycleS s).length≤64) (hlb:∀ x ∈ cycleS s,0≤x∧x < s.P.length) :
  Calls Try.prog 46 #[.pointer (some ⟨a.g,0,none⟩)] w (NilPost w0 a (stepG s)):=by
 have HCy:=zF (cycle_calls h ok)
 have HSt:Aside0 (stepG s=leaveS (doneS s (cycleS s))):=⟨rfl⟩
 generalize cycleS s=l at *
 have HRec:=zF (fun (W:World) (hb:Below w.heap.size w W) (A:Option Addr) (cL:Nat) (hl:(Kd.int .i64).C W A l.length l) (hlc:l.length≤cL)=>record_calls (h.kept hb) ok c hc hrg A cL l hl hlc hne hlb)
 have HOK:=zF ok
 have HLB:=zF hlb
 have HH:=zF h
 have hl64:=hne.2
 have HNe:=zF hne
 have hn:=ok.n
 have HTl:=zF ok.tos
 have HGl:=zF ok.gone
 obtain ⟨AT,cT,eT,lT,_⟩:=h.tosC
 obtain ⟨AG,cG,eG,lG,_⟩:=h.goneC
 have hPp:0 < s.P.length:=by
  obtain ⟨x,hx⟩:=List.exists_mem_of_length_pos hne.1
  have:=hlb x hx;omega
 have hRT:=h.tos
 rw [eT] at hRT
 obtain ⟨bT,cT2,efT,_,_,cellsT,hbT⟩:=Kd.R_form hRT (by rw [ok.tos];exact hPp)
 injection efT with e1 _ _
 subst e1
 have hRG:=h.gone
 rw [eG] at hRG
 obtain ⟨bG,cG2,efG,_,_,cellsG,hbG⟩:=Kd.R_form hRG (by rw [ok.gone];exact hPp)
 injection efG with e1 _ _
 subst e1
 have HbT:=zF (And.intro hbT (blk_lt hbT))
 have HbG:=zF (And.intro hbG (blk_lt hbG))
 obtain ⟨nk,hmk⟩:=h.tak
 have HbK:=zF hmk.lt
 have hTG:bT≠bG:=blk_ne hbT hbG (by decide)
 have hgT:a.g≠bT:=blk_ne h.blk hbT (by decide)
 have hgG:a.g≠bG:=blk_ne h.blk hbG (by decide)
 have hgK:a.g≠a.bk:=fun e=>by
  obtain ⟨es,cl,hb,_⟩:=hmk
  rw [← e,h.blk] at hb;cases hb
 have hTK:bT≠a.bk:=fun e=>by
  obtain ⟨es,cl,hb,_⟩:=hmk
  rw [← e,hbT] at hb;cases hb
 have HNE:=zF (And.intro hTG (And.intro hgT (And.intro hgG (And.intro hgK hTK))))
 rw [ok.tos] at eT
 rw [ok.gone] at eG
 have HET:=zF eT
 have HEG:=zF eG
 have HGLt:=zF h.lt
 rw [HSt.out]
 clear h ok hrg hlb hne lT lG eT eG hRT hRG hbT hbG hmk hTG hgT hgG hgK hTK hPp HSt
 go_enter Try.func46,Try.ntmps46
 go_wp2_with (first
  | (go_at_call 75;(with_reducible refine HCy.out.mono ?_);rintro e w1 ⟨v1,rfl,hr,hb⟩;have HB1:=zF hb;have HL1:=zF (LRow.of hr);obtain ⟨AL,cL,ev1,hlc,hCL⟩:=Kd.R_reads hr;subst ev1;have HRc:=zF (HRec.out _ hb AL cL hCL hlc);clear hr hb hCL)
  | (go_at_call 76;(with_reducible refine HRc.out.mono ?_);rintro e w2 ⟨rfl,vR2,hG2,hK2⟩;have HG2:=zF hG2;have HL2:=zF (HL1.out.kept (HH.out.kept HB1.out) hK2);clear hG2 hK2))
 clear HCy HRec HRc HL1
 go_loopg [4,14] l.length (fun gk _ v14 w'=>∃ i:Nat,v14 = .int .i64 i∧Aside0 (i≤l.length∧gk=l.length - i)∧Aside0 (GAt w0 w' a { s with rg:=recordS s l,tos:=setsL s l i } vR2)∧Aside0 (LRow w w' (.slice AL l.length cL) l))
 case atStart=>exact ⟨0,rfl,⟨Nat.zero_le _,rfl⟩,HG2,HL2⟩
 case round =>
  clear HG2 HL2
  obtain ⟨i,rfl,HI,HG,HL⟩:=hrel
  have hi:=HI.out.1
  by_cases hlt:i < l.length
  ·
   have hCL:=(Kd.R_reads' HL.out).2.2
   obtain ⟨adl,e,y⟩:=intC_at hCL (i:=i) hlt
   subst e
   obtain ⟨q0,q1⟩:=HLB.out _ (rd_mem hlt)
   obtain ⟨p,hp⟩:∃ p:Nat,rd l (i:Int)=p:=⟨(rd l (i:Int)).toNat,by omega⟩
   have HSn:Aside0 (setsL s l (i + 1)=(setsL s l i).set p (wantS s (p:Int))):=⟨by show (setsL s l i).set (rd l (i:Int)).toNat (wantS s (rd l (i:Int)))=_;rw [hp,Int.toNat_natCast]⟩
   rw [hp] at y
   have hpl:p < s.P.length:=by omega
   have hpl':(p:Int) < (s.P.length:Int):=by omega
   have hp0:(0:Int)≤(p:Int):=by omega
   have hlt':(i:Int) < (l.length:Int):=by omega
   have HPL:=zF hpl
   have HLT:=zF hlt
   have HWC:=zF (fun (W:World) (hb:Below wr.heap.size wr W)=>want_calls (s:={ s with rg:=recordS s l,tos:=setsL s l i }) (HG.out.kept hb) ⟨HOK.out.n,HOK.out.wn,HOK.out.ord,HOK.out.ordn,HOK.out.gone,(setsL_len s l i).trans HOK.out.tos,HOK.out.ten⟩ p hpl)
   have hws:wantS { s with rg:=recordS s l,tos:=setsL s l i } (p:Int)=wantS s (p:Int):=rfl
   rw [hws] at HWC
   have HPut:=zF (fun (W:World) (hb:Below wr.heap.size wr W)=>(HG.out.kept hb).tos_put HET.out hpl (wantS s (p:Int)))
   have HC6:Aside0 (wr.cell? ⟨a.g,6,none⟩=some (.slice (some ⟨bT,0,none⟩) s.P.length cT)):=⟨by rw [← HET.out];exact HG.out.c6⟩
   have HTc:Aside0 (∃ u,wr.cell? ⟨bT,p,none⟩=some (.int .i64 u)∧wr.frozen? ⟨bT,p,none⟩=false):=⟨by
    have hR:=HG.out.tos
    rw [HET.out] at hR
    have:=Kd.R_celln (0:Int) hR (p:Int) (by omega) (by omega)
    rw [Int.toNat_natCast] at this
    exact ⟨_,this⟩⟩
   have hws2:okI (wantS s (p:Int)):=wantS_ok HOK.out hpl
   have HWo:=zF hws2
   clear hp q0 q1 hCL hws hws2
   go_upto_region 5 with (fail)
   clear y
   refine wp_region_split 8 (fun W=>Below wr.heap.size wr W) (by kernel_rfl) (by kernel_rfl) ?_
   simp only [List.take_succ_cons,List.take_zero,List.drop_succ_cons,List.drop_zero]
   have HS:Below wr.heap.size wr wr.drew:=below_drew (Below.refl _ _)
   generalize wr.drew=wx at HS ⊢
   refine tK (v:=.pointer (some ⟨a.g,0,none⟩)) 0 HS (fun w9 h9=>?hy) ?_
   case hy=>(skip;go_simp)
   try simp only [Act.put,zA,zB,zC]
   refine tK (v:=.pointer (some ⟨a.g,0,none⟩)) 1 HS (fun w9 h9=>?hy) ?_
   case hy=>(skip;go_simp)
   try simp only [Act.put,zA,zB,zC]
   refine tK (v:=.pointer (some ⟨a.g,6,none⟩)) 2 HS (fun w9 h9=>?hy) ?_
   case hy=>(skip;go_simp)
   try simp only [Act.put,zA,zB,zC]
   refine tK (v:=.slice (some ⟨bT,0,none⟩) s.P.length cT) 3 HS (fun w9 h9=>?hy) ?_
   case hy=>(have y1:=pw_cell_below h9 HC6.out;go_simp)
   try simp only [Act.put,zA,zB,zC]
   refine tK (v:=.int .i64 p) 4 HS (fun w9 h9=>?hy) ?_
   case hy=>(skip;go_simp)
   try simp only [Act.put,zA,zB,zC]
   refine tK (v:=.pointer (some ⟨a.g,0,none⟩)) 5 HS (fun w9 h9=>?hy) ?_
   case hy=>(skip;go_simp)
   try simp only [Act.put,zA,zB,zC]
   refine tK (v:=.int .i64 p) 6 HS (fun w9 h9=>?hy) ?_
   case hy=>(skip;go_simp)
   try simp only [Act.put,zA,zB,zC]
   refine only_held 7 rfl (by kernel_rfl) (fun K hK=>?_)
   rw [if_pos (by rfl)]
   go_simp
   go_at_call 72
   (with_reducible refine (HWC.out _ HS).mono ?_)
   rintro e w3 ⟨rfl,hb⟩
   replace HS:=below_then HS (HS.size) hb
   clear hb
   refine hK.out _ _ HS ?_
   try simp only [Act.put,zA,zB,zC]
   clear hK K
   refine done_held (by kernel_rfl) ?_
   show wpList _ _ _ _ _ _
   obtain ⟨u,hu1,hu2⟩:=HTc.out
   have z1:=pw_cell_below HS hu1
   have z2:w3.frozen? ⟨bT,p,none⟩=false:=(HS.frozen (p:=⟨bT,p,none⟩) (World.block_lt_of_cell? _ _ hu1)).trans hu2
   have HGn:=zF (HPut.out _ HS)
   have HLn:=zF ((HL.out.below HS).set_ (p:=⟨bT,p,none⟩) HbT.out.2 (.int .i64 (wantS s (p:Int))))
   have HU:=HI.out
   have HU2:=HLT.out
   clear hu1 hu2 HS HL HG HPut HWC
   generalize wantS s (p:Int)=zz at *
   go_wp2
   go_roundg (l.length - (i + 1))
   case measure=>omega
   case rel=>exact ⟨i + 1,by go_num,⟨by omega,rfl⟩,⟨by rw [HSn.out];exact HGn.out⟩,HLn⟩
  ·
   obtain rfl:i=l.length:=by omega
   have HG3:=zF HG.out
   have HL3:=zF HL.out
   go_wp2
   go_loopg [6,30] l.length (fun gk _ v30 w'=>∃ i:Nat,v30 = .int .i64 i∧Aside0 (i≤l.length∧gk=l.length - i)∧Aside0 (GAt w0 w' a { s with rg:=recordS s l,tos:=setsL s l l.length,gone:=goK l s.gone i,tak:=takK (setsL s l l.length) l s.tak i } vR2)∧Aside0 (LRow w w' (.slice AL l.length cL) l))
   case atStart=>exact ⟨0,rfl,⟨Nat.zero_le _,rfl⟩,HG3,HL3⟩
   case round =>
    clear HG3 HL3 HG HL
    obtain ⟨i,rfl,HI2,HG,HL⟩:=hrel
    have hi2:=HI2.out.1
    by_cases hlt2:i < l.length
    ·
     have hCL:=(Kd.R_reads' HL.out).2.2
     obtain ⟨adl,e,y⟩:=intC_at hCL (i:=i) hlt2
     subst e
     obtain ⟨q0,q1⟩:=HLB.out _ (rd_mem hlt2)
     have hSo:=setsL_ok HOK.out l HLB.out l.length (Nat.le_refl _) i hlt2
     obtain ⟨p,hp⟩:∃ p:Nat,rd l (i:Int)=p:=⟨(rd l (i:Int)).toNat,by omega⟩
     have HGn:Aside0 (goK l s.gone (i + 1)=(goK l s.gone i).set p true):=⟨by show (goK l s.gone i).set (rd l (i:Int)).toNat true=_;rw [hp,Int.toNat_natCast]⟩
     have HKn:Aside0 (takK (setsL s l l.length) l s.tak (i + 1)=fun f=>if f=rd (setsL s l l.length) (p:Int) then some true else takK (setsL s l l.length) l s.tak i f):=⟨by rw [← hp];rfl⟩
     rw [hp] at y hSo
     have hpl:p < s.P.length:=by omega
     have hpl':(p:Int) < (s.P.length:Int):=by omega
     have hp0:(0:Int)≤(p:Int):=by omega
     have hlt':(i:Int) < (l.length:Int):=by omega
     have HPL:=zF hpl
     have HLT:=zF hlt2
     have HC4:Aside0 (wr.cell? ⟨a.g,4,none⟩=some (.slice (some ⟨bG,0,none⟩) s.P.length cG)):=⟨by rw [← HEG.out];exact HG.out.c4⟩
     have HC5:=zF HG.out.c5
     have HC6:Aside0 (wr.cell? ⟨a.g,6,none⟩=some (.slice (some ⟨bT,0,none⟩) s.P.length cT)):=⟨by rw [← HET.out];exact HG.out.c6⟩
     have HTc:Aside0 (wr.cell? ⟨bT,p,none⟩=some (.int .i64 (rd (setsL s l l.length) (p:Int)))):=⟨by
      have hR:=HG.out.tos
      rw [HET.out] at hR
      have:=(Kd.R_celln (0:Int) hR (p:Int) (by omega) (by omega)).1
      rw [Int.toNat_natCast] at this
      exact this⟩
     have HGc:Aside0 (∃ u,wr.cell? ⟨bG,p,none⟩=some (.bool u)∧wr.frozen? ⟨bG,p,none⟩=false):=⟨by
      have hR:=HG.out.gone
      rw [HEG.out] at hR
      have:=Kd.R_celln false hR (p:Int) (by omega) (by omega)
      rw [Int.toNat_natCast] at this
      exact ⟨_,this⟩⟩
     have HKey:=zF (okI_key hSo)
     have HPut:=zF (fun (W:World) (hb:Below wr.heap.size wr W)=>(HG.out.kept hb).gone_put HEG.out hpl true)
     generalize rd (setsL s l l.length) (p:Int)=x at *
     clear hp q0 q1 hCL hSo
     go_upto_region 10 with (fail)
     clear y
     refine wp_region_any (by kernel_rfl) ?_
     refine wpAny_of_held (S:=fun W=>W.cell? ⟨a.g,4,none⟩=some (.slice (some ⟨bG,0,none⟩) s.P.length cG)∧W.cell? ⟨a.g,5,none⟩=some (.map (some a.bk))∧W.cell? ⟨a.g,6,none⟩=some (.slice (some ⟨bT,0,none⟩) s.P.length cT)∧W.cell? ⟨bT,p,none⟩=some (.int .i64 x)) _ _ _ _ ?_
     show wpAnyH _ _ _ _ _ 21 (Array.replicate 21 false) _ wr.drew
     have HBx:Aside0 (Below wr.heap.size wr wr.drew):=⟨below_drew (Below.refl _ _)⟩
     have HS:=And.intro (pw_cell_below HBx.out HC4.out) (And.intro (pw_cell_below HBx.out HC5.out) (And.intro (pw_cell_below HBx.out HC6.out) (pw_cell_below HBx.out HTc.out)))
     generalize wr.drew=wx at HS HBx ⊢
     refine tK (v:=.pointer (some ⟨a.g,0,none⟩)) 0 HS (fun w9 h9=>?hy) ?_
     case hy=>(skip;go_simp)
     try simp only [Act.put,zA,zB,zC]
     refine tK (v:=.pointer (some ⟨a.g,0,none⟩)) 1 HS (fun w9 h9=>?hy) ?_
     case hy=>(skip;go_simp)
     try simp only [Act.put,zA,zB,zC]
     refine tK (v:=.pointer (some ⟨a.g,4,none⟩)) 2 HS (fun w9 h9=>?hy) ?_
     case hy=>(skip;go_simp)
     try simp only [Act.put,zA,zB,zC]
     refine tK (v:=.slice (some ⟨bG,0,none⟩) s.P.length cG) 3 HS (fun w9 h9=>?hy) ?_
     case hy=>(obtain ⟨y1,y2,y3,y4⟩:=h9;go_simp)
     try simp only [Act.put,zA,zB,zC]
     refine tK (v:=.int .i64 p) 4 HS (fun w9 h9=>?hy) ?_
     case hy=>(skip;go_simp)
     try simp only [Act.put,zA,zB,zC]
     refine tK (v:=.pointer (some ⟨a.g,0,none⟩)) 5 HS (fun w9 h9=>?hy) ?_
     case hy=>(skip;go_simp)
     try simp only [Act.put,zA,zB,zC]
     refine tK (v:=.pointer (some ⟨a.g,0,none⟩)) 6 HS (fun w9 h9=>?hy) ?_
     case hy=>(skip;go_simp)
     try simp only [Act.put,zA,zB,zC]
     refine tK (v:=.pointer (some ⟨a.g,5,none⟩)) 7 HS (fun w9 h9=>?hy) ?_
     case hy=>(skip;go_simp)
     try simp only [Act.put,zA,zB,zC]
     refine tK (v:=.map (some a.bk)) 8 HS (fun w9 h9=>?hy) ?_
     case hy=>(obtain ⟨y1,y2,y3,y4⟩:=h9;go_simp)
     try simp only [Act.put,zA,zB,zC]
     refine tK (v:=.pointer (some ⟨a.g,0,none⟩)) 9 HS (fun w9 h9=>?hy) ?_
     case hy=>(skip;go_simp)
     try simp only [Act.put,zA,zB,zC]
     refine tK (v:=.pointer (some ⟨a.g,0,none⟩)) 10 HS (fun w9 h9=>?hy) ?_
     case hy=>(skip;go_simp)
     try simp only [Act.put,zA,zB,zC]
     refine tK (v:=.pointer (some ⟨a.g,6,none⟩)) 11 HS (fun w9 h9=>?hy) ?_
     case hy=>(skip;go_simp)
     try simp only [Act.put,zA,zB,zC]
     refine tK (v:=.slice (some ⟨bT,0,none⟩) s.P.length cT) 12 HS (fun w9 h9=>?hy) ?_
     case hy=>(obtain ⟨y1,y2,y3,y4⟩:=h9;go_simp)
     try simp only [Act.put,zA,zB,zC]
     refine tK (v:=.int .i64 p) 13 HS (fun w9 h9=>?hy) ?_
     case hy=>(skip;go_simp)
     try simp only [Act.put,zA,zB,zC]
     refine tK (v:=.pointer (some ⟨bT,p,none⟩)) 14 HS (fun w9 h9=>?hy) ?_
     case hy=>(skip;go_simp)
     try simp only [Act.put,zA,zB,zC]
     refine tK (v:=.int .i64 x) 15 HS (fun w9 h9=>?hy) ?_
     case hy=>(obtain ⟨y1,y2,y3,y4⟩:=h9;go_simp)
     try simp only [Act.put,zA,zB,zC]
     refine tK (v:=.pointer (some ⟨bG,p,none⟩)) 16 HS (fun w9 h9=>?hy) ?_
     case hy=>(skip;go_simp)
     try simp only [Act.put,zA,zB,zC]
     obtain ⟨u,hu1,hu2⟩:=HGc.out
     have z1:=pw_cell_below HBx.out hu1
     have z2:wx.frozen? ⟨bG,p,none⟩=false:=(HBx.out.frozen (p:=⟨bG,p,none⟩) (World.block_lt_of_cell? _ _ hu1)).trans hu2
     clear hu1 hu2
     refine only_held 17 rfl (by kernel_rfl) (fun K hK=>?_)
     rw [if_pos (by rfl)]
     go_simp
     have HG1:=zF (HPut.out _ HBx.out)
     have HL1:=zF ((HL.out.below HBx.out).set_ (p:=⟨bG,p,none⟩) HbG.out.2 (.bool true))
     have HS1:(fun W=>W.cell? ⟨a.g,4,none⟩=some (.slice (some ⟨bG,0,none⟩) s.P.length cG)∧W.cell? ⟨a.g,5,none⟩=some (.map (some a.bk))∧W.cell? ⟨a.g,6,none⟩=some (.slice (some ⟨bT,0,none⟩) s.P.length cT)∧W.cell? ⟨bT,p,none⟩=some (.int .i64 x)) (wx.setCell ⟨bG,p,none⟩ (.bool true)):=⟨(World.cell?_setCell_far _ _ _ _ (Ne.symm HNE.out.2.2.1)).trans HS.1,(World.cell?_setCell_far _ _ _ _ (Ne.symm HNE.out.2.2.1)).trans HS.2.1,(World.cell?_setCell_far _ _ _ _ (Ne.symm HNE.out.2.2.1)).trans HS.2.2.1,(World.cell?_setCell_far _ _ _ _ (Ne.symm HNE.out.1)).trans HS.2.2.2⟩
     clear z1 z2 HS HL HG HPut
     refine hK.out _ _ HS1 ?_
     try simp only [Act.put,zA,zB,zC]
     clear hK K
     generalize wx.setCell ⟨bG,p,none⟩ (.bool true)=wy at HG1 HL1 HS1 ⊢
     have HS:=HS1
     clear HS1
     obtain ⟨mk,hmk⟩:=HG1.out.tak
     obtain ⟨v0,st,w5,hr1,hg1,hz1,w6,hr2,hm2,hg2,hz2⟩:=hmk.entry keyInt Try.underlying37 zeroB HKey.out (.bool true)
     have far:∀ {W:World},wy.grownBy W (some a.bk)→(fun W=>W.cell? ⟨a.g,4,none⟩=some (.slice (some ⟨bG,0,none⟩) s.P.length cG)∧W.cell? ⟨a.g,5,none⟩=some (.map (some a.bk))∧W.cell? ⟨a.g,6,none⟩=some (.slice (some ⟨bT,0,none⟩) s.P.length cT)∧W.cell? ⟨bT,p,none⟩=some (.int .i64 x)) W:=fun hg=>⟨(hg.cell_far ⟨a.g,4,none⟩ (World.block_lt_of_cell? _ _ HS.1) (fun e=>HNE.out.2.2.2.1 (Option.some.inj e))).trans HS.1,(hg.cell_far ⟨a.g,5,none⟩ (World.block_lt_of_cell? _ _ HS.2.1) (fun e=>HNE.out.2.2.2.1 (Option.some.inj e))).trans HS.2.1,(hg.cell_far ⟨a.g,6,none⟩ (World.block_lt_of_cell? _ _ HS.2.2.1) (fun e=>HNE.out.2.2.2.1 (Option.some.inj e))).trans HS.2.2.1,(hg.cell_far ⟨bT,p,none⟩ (World.block_lt_of_cell? _ _ HS.2.2.2) (fun e=>HNE.out.2.2.2.2 (Option.some.inj e))).trans HS.2.2.2⟩
     rw [intF_put] at hm2
     have HG6:=zF (HG1.out.tak_put hg2 hm2)
     have HL6:=zF (HL1.out.grown hg2 HbK.out)
     have HS5:=far hg1
     have HS6:=far hg2
     have HR2:=zF hr2
     clear far hm2 hg1 hg2 hz1 hz2 hmk hr2 HG1 HL1
     refine only_held 18 rfl (by kernel_rfl) (fun K hK=>?_)
     rw [if_pos (by rfl)]
     go_simp
     refine hK.out _ _ HS5 ?_
     try simp only [Act.put,zA,zB,zC]
     clear hK K hr1
     replace HS:=HS5
     clear HS5
     refine tK (v:=.int .i64 (st:Int)) 19 HS (fun w9 h9=>?hy) ?_
     case hy=>(skip;go_simp)
     try simp only [Act.put,zA,zB,zC]
     have hr2:=HR2.out
     clear HR2
     refine only_held 20 rfl (by kernel_rfl) (fun K hK=>?_)
     rw [if_pos (by rfl)]
     go_simp
     refine hK.out _ _ HS6 ?_
     try simp only [Act.put,zA,zB,zC]
     clear hK K hr2 HS
     refine done_held (by kernel_rfl) ?_
     have HU:=HI2.out
     have HU2:=HLT.out
     clear HS6
     go_wp2
     go_roundg (l.length - (i + 1))
     case measure=>omega
     case rel=>exact ⟨i + 1,by go_num,⟨by omega,rfl⟩,⟨by rw [HGn.out,HKn.out];exact HG6.out⟩,HL6⟩
    ·
     obtain rfl:i=l.length:=by omega
     have HLv:=zF (leave_calls (s:=doneS s l) HG.out ⟨HOK.out.n,HOK.out.wn,HOK.out.ord,HOK.out.ordn,(goK_len _ _ _).trans HOK.out.gone,(setsL_len _ _ _).trans HOK.out.tos,HOK.out.ten⟩)
     go_wp2_with (go_at_call 44;(with_reducible refine HLv.out.mono ?_);rintro e w9 ⟨rfl,v9,hG9⟩;have HG9:=zF hG9;clear hG9)
     go_end0
     exact ⟨rfl,v9,HG9.out⟩
end Go.Proofs.Ytjgnkhfgmpaljaa.P
