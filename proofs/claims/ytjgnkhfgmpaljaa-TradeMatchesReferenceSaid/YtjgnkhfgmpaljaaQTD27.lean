/- Lemmas, readings of functions as plain Lean functions and contracts of functions of the program, for the claimed theorem; each one's conditions stand in its statement. -/
import Derived.Test.YtjgnkhfgmpaljaaQTD26
import Derived.Outline
import Derived.Test.YtjgnkhfgmpaljaaQTD15
namespace Go.Proofs.Ytjgnkhfgmpaljaa.P
open Go.RowKit Go.Proofs.YtjgnkhfgmpaljaaW.PrintWords Go.Proofs.YtjgnkhfgmpaljaaW.PrintLast Go.Proofs.YtjgnkhfgmpaljaaW.PrintMore Go.Proofs.Ytjgnkhfgmpaljaa.M
open Go.Proofs.Ytjgnkhfgmpaljaa
set_option linter.unusedVariables false
set_option linter.unusedSimpArgs false
/-- The rows of a state, and what they tell; w0: the world where the reference's Solve began. -/
structure SR (w0 w:World) (AF:Option Addr) (cF:Nat) (F:List S53) (AP:Option Addr) (cP:Nat) (P:List S41) (AO:Option Addr) (cO:Nat) (ord:List Int) (vG vT vK:Value) (gone:List Bool) (tos tak:List Int):Prop where
 below:Below w0.heap.size w0 w
 fl:k53.C w0 AF F.length F
 flc:F.length≤cF
 par:k41.C w0 AP P.length P
 parc:P.length≤cP
 hord:(Kd.int .i64).C w0 AO ord.length ord
 ordc:ord.length≤cO
 G:Kd.R Kd.bool 4 w w0.heap.size (fun _=>True) vG gone
 T:Kd.R (Kd.int .i64) 3 w w0.heap.size (fun _=>True) vT tos
 K:Kd.R (Kd.int .i64) 3 w w0.heap.size (fun _=>True) vK tak
 ne:∀ k,vT.ownBlock=some k→some k≠vK.ownBlock
theorem grown_of_below {w w':World} {row:Option Nat} (h:Below w.heap.size w w'):w.grownBy w' row:=⟨h.os,h.tape,h.output,h.size,fun k hk _=>h.block k hk⟩
section
variable {w0 w w':World} {AF:Option Addr} {cF:Nat} {F:List S53} {AP:Option Addr} {cP:Nat} {P:List S41} {AO:Option Addr} {cO:Nat} {ord:List Int} {vG vT vK:Value} {gone:List Bool} {tos tak:List Int} {A:T.Asg}
theorem SR.kept (h:SR w0 w AF cF F AP cP P AO cO ord vG vT vK gone tos tak) (hb:Below w.heap.size w w'):SR w0 w' AF cF F AP cP P AO cO ord vG vT vK gone tos tak :=
 ⟨below_step h.below hb,h.fl,h.flc,h.par,h.parc,h.hord,h.ordc,Kd.R_below h.G hb,Kd.R_below h.T hb,Kd.R_below h.K hb,h.ne⟩
theorem SR.flW (h:SR w0 w AF cF F AP cP P AO cO ord vG vT vK gone tos tak):k53.C w AF F.length F:=Kd.C_below h.fl h.below
theorem SR.parW (h:SR w0 w AF cF F AP cP P AO cO ord vG vT vK gone tos tak):k41.C w AP P.length P:=Kd.C_below h.par h.below
theorem SR.ordW (h:SR w0 w AF cF F AP cP P AO cO ord vG vT vK gone tos tak):(Kd.int .i64).C w AO ord.length ord:=Kd.C_below h.hord h.below
/-- A store into the row of those that have gone. -/
theorem SR.putG {g c n:Nat} (h:SR w0 w AF cF F AP cP P AO cO ord (.slice (some ⟨g,0,none⟩) n c) vT vK gone tos tak) (p:Nat) (b:Bool) :
  SR w0 (w.setCell ⟨g,p,none⟩ (.bool b)) AF cF F AP cP P AO cO ord (.slice (some ⟨g,0,none⟩) n c) vT vK (gone.set p b) tos tak∧w.grownBy (w.setCell ⟨g,p,none⟩ (.bool b)) (some g):=by
 obtain ⟨rfl,_⟩:=Kd.R_reads' h.G
 have hgb:w0.heap.size≤g:=Kd.R_base h.G g rfl
 obtain ⟨cells,hc⟩:=own_typed (Kd.R_own h.G).choose_spec g rfl
 have h1:=Kd.R_put h.G (p:Int) b
 rw [Int.toNat_natCast] at h1
 exact ⟨⟨below_set h.below hgb,h.fl,h.flc,h.par,h.parc,h.hord,h.ordc,h1.1,Kd.R_set h.T hc (by decide) p _,Kd.R_set h.K hc (by decide) p _,h.ne⟩,h1.2⟩
theorem best_calls (h:SR w0 w AF cF F AP cP P AO cO ord vG vT vK gone tos tak) (hF:Fine P ord) (hI:T.Inv (datG P ord) A) (hB:RB P ord gone tos tak A) {p:Nat} (hp:p < P.length) (ha:A p=none) :
  Calls Try.prog 52 #[.agg #[.slice AF F.length cF,.slice AP P.length cP,.slice AO ord.length cO,vG,vT,vK],.int .i64 p] w (fun e w'=>e = .returned (.int .i64 (T.want (datG P ord) A p))∧Below w.heap.size w w'):=by
 obtain ⟨AG,cG,rfl,hcG,hG⟩:=Kd.R_reads h.G
 obtain ⟨AT,cT,rfl,hcT,hT⟩:=Kd.R_reads h.T
 obtain ⟨AK,cK,rfl,hcK,hK⟩:=Kd.R_reads h.K
 obtain ⟨k,hk⟩:=(best_ev (F:=F) hF hI hB hp ha).rounds
 exact cohousingref24_best.calls k _ _ _ _ _ _ _ _ _ _ _ _ _ _ _ _ _ _ _ _ w h.flW h.flc h.parW h.parc h.ordW h.ordc hG hcG hT hcT hK hcK hk
/-- One more that goes without a flat, or none. -/
theorem leave_next (D:T.Dat) (A:T.Asg) (i:Nat) (hi:i < D.n) (p:Nat):T.leaveL D A (List.range (i + 1)) p=if p=i∧A i=none∧T.want D A i=0 then some 0 else T.leaveL D A (List.range i) p:=by
 unfold T.leaveL
 by_cases e:p=i
 ·
  subst e
  by_cases h:A p=none∧T.want D A p=0
  ·
   rw [if_pos ⟨by simp,hi,h.1,h.2⟩,if_pos ⟨rfl,h.1,h.2⟩]
  ·
   rw [if_neg (fun hh=>h ⟨hh.2.2.1,hh.2.2.2⟩),if_neg (fun hh=>h ⟨hh.2.1,hh.2.2⟩),if_neg (by simp)]
 ·
  have hr:p ∈ List.range (i + 1) ↔ p ∈ List.range i:=by simp;omega
  simp only [hr]
  simp [e]
theorem leave_same (D:T.Dat) (A:T.Asg) (i:Nat):T.leaveL D A (List.range i) i=A i:=by unfold T.leaveL;simp
theorem RB.leave (hF:Fine P ord) {i:Nat} (hi:i < P.length) (hB:RB P ord gone tos tak (T.leaveL (datG P ord) A (List.range i))) (ha:A i=none) (hw:T.want (datG P ord) A i=0):RB P ord (gone.set i true) tos tak (T.leaveL (datG P ord) A (List.range (i + 1))):=by
 have hgl:=hB.gl
 have e:=fun p=>leave_next (datG P ord) A i hi p
 refine ⟨by rw [List.length_set];exact hB.gl,hB.tl,fun p hp=>?_,fun p hp=>?_,fun f h0=>?_,hB.tn⟩
 ·
  rw [e,List.getD_eq_getElem?_getD,List.getElem?_set]
  by_cases h:i=p
  ·
   subst h;rw [if_pos rfl,if_pos (by omega),if_pos ⟨rfl,ha,hw⟩];rfl
  ·
   rw [if_neg h,if_neg (fun hh=>h hh.1.symm),← List.getD_eq_getElem?_getD];exact hB.hgone p hp
 ·
  rw [e]
  have:=hB.htos p hp
  by_cases h:p=i
  ·
   subst h
   rw [leave_same,ha] at this
   rw [if_pos ⟨rfl,ha,hw⟩,this];rfl
  ·
   rw [if_neg (fun hh=>h hh.1)];exact this
 ·
  rw [hB.htak f h0,T.taken_leave _ h0,T.taken_leave _ h0]
theorem RB.leave_not {i:Nat} (hi:i < P.length) (hB:RB P ord gone tos tak (T.leaveL (datG P ord) A (List.range i))) (h:¬ (A i=none∧T.want (datG P ord) A i=0)):RB P ord gone tos tak (T.leaveL (datG P ord) A (List.range (i + 1))):=by
 have e:=fun p=>leave_next (datG P ord) A i hi p
 have e2:T.leaveL (datG P ord) A (List.range (i + 1))=T.leaveL (datG P ord) A (List.range i):=by
  funext p;rw [e,if_neg (fun hh=>h hh.2)]
 rw [e2];exact hB
end
set_option maxHeartbeats 8000000 in
set_option maxRecDepth 100000 in
theorem rleave_calls {w0 w:World} {AF:Option Addr} {cF:Nat} {F:List S53} {AP:Option Addr} {cP:Nat} {P:List S41} {AO:Option Addr} {cO:Nat} {ord:List Int} {vG vT vK:Value} {gone:List Bool} {tos tak:List Int} {A:T.Asg}
  (h:SR w0 w AF cF F AP cP P AO cO ord vG vT vK gone tos tak) (hF:Fine P ord) (hI:T.Inv (datG P ord) A) (hB:RB P ord gone tos tak A) :
  Calls Try.prog 47 #[.agg #[.slice AF F.length cF,.slice AP P.length cP,.slice AO ord.length cO,vG,vT,vK]] w
   (fun e w'=>e = .returned (.agg #[.slice AF F.length cF,.slice AP P.length cP,.slice AO ord.length cO,vG,vT,vK])∧∃ gone':List Bool,SR w0 w' AF cF F AP cP P AO cO ord vG vT vK gone' tos tak∧RB P ord gone' tos tak (T.leaveA (datG P ord) A)∧w.grownBy w' vG.ownBlock):=by
 have hgl:=hB.gl
 have hn:=hF.n
 have hu81:=Try.underlying81
 obtain ⟨AG,cG,e,hcG,hG⟩:=Kd.R_reads h.G
 rw [hgl] at e
 subst e
 obtain ⟨AT,cT,rfl⟩:=Kd.R_slice h.T
 obtain ⟨AK,cK,rfl⟩:=Kd.R_slice h.K
 have HS:=zF h
 have HSw:=zF h.below.size
 have HB:=zF (show RB P ord gone tos tak (T.leaveL (datG P ord) A (List.range 0)) by rw [show T.leaveL (datG P ord) A (List.range 0)=A from by funext p;unfold T.leaveL;simp];exact hB)
 have HF:=zF hF
 have HI:=zF hI
 have hwf:=fine_wf hF
 have HG0:=zF (World.grownBy.refl w (Value.slice AG P.length cG).ownBlock)
 clear h hF hI hB hG hgl
 go_enter Try.func47,Try.ntmps47
 go_wp2_with (first
  | ((with_reducible refine gate_dst (N:=1) rfl ?_);refine box_event ?hg (N:=1) ?hd (cs:=#[.slice AF F.length cF,.slice AP P.length cP,.slice AO ord.length cO,.slice AG P.length cG,.slice AT tos.length cT,.slice AK tak.length cK]) (t:=81) ?hr ?_;(case hd=>rfl);(case hg=>rfl);(case hr=>first|(go_simp;done)|(go_simp;rfl));intro g1 hg w1 hbox hb;have K1:=zF hbox;have B1:=zF hb;have E1:=zF hg;clear hbox hb hg)
  | ((with_reducible refine gate_dst (N:=2) rfl ?_);refine box_event ?hg (N:=2) ?hd (cs:=#[.slice none 0 0,.slice none 0 0,.slice none 0 0,.slice none 0 0,.slice none 0 0,.slice none 0 0]) (t:=81) ?hr ?_;(case hd=>rfl);(case hg=>rfl);(case hr=>first|(go_simp;done)|(go_simp;rfl));intro g2 hg w2 hbox hb;have K2:=zF hbox;have B2:=zF hb;have E2:=zF hg;clear hbox hb hg))
 have hG0:w.grownBy w2 (Value.slice AG P.length cG).ownBlock:=(grown_of_below B1.out).trans (grown_of_below B2.out)
 have HG2:=zF hG0
 have HS2:=zF ((HS.out.kept B1.out).kept B2.out)
 have K12:=zF (blk_below K1.out B2.out)
 have hne12:g1≠g2:=by have h1:=E1.out;have h2:=E2.out;have h3:=blk_lt K1.out;omega
 have HNe:=zF hne12
 clear hG0 HG0 HS K1 hne12
 go_loopg [3] P.length (fun gk v3 w'=>∃ (i:Nat) (gn:List Bool),v3 = .int .i64 i∧Aside0 (i≤P.length∧gk=P.length - i)∧Aside0 (SR w0 w' AF cF F AP cP P AO cO ord (.slice AG P.length cG) (.slice AT tos.length cT) (.slice AK tak.length cK) gn tos tak)∧Aside0 (RB P ord gn tos tak (T.leaveL (datG P ord) A (List.range i)))∧Aside0 (w.grownBy w' (Value.slice AG P.length cG).ownBlock) ∧
  Aside0 (w'.heap[g1]? = some (.cells #[.slice AF F.length cF,.slice AP P.length cP,.slice AO ord.length cO,.slice AG P.length cG,.slice AT tos.length cT,.slice AK tak.length cK] 81 (0,0)))∧Aside0 (w'.heap[g2]? = some (.cells #[.slice none 0 0,.slice none 0 0,.slice none 0 0,.slice none 0 0,.slice none 0 0,.slice none 0 0] 81 (0,0))))
 case atStart=>exact ⟨0,gone,rfl,⟨Nat.zero_le _,rfl⟩,HS2,HB,HG2,K12,K2⟩
 case round =>
  clear HS2 HB HG2 K12 K2
  obtain ⟨i,gn,rfl,HJ,HS,HB,HG,K1,K2⟩:=hrel
  have hi:=HJ.out.1
  have z0:=(blk_cell K1.out 0).trans rfl
  have z1:=(blk_cell K1.out 1).trans rfl
  have z2:=(blk_cell K1.out 2).trans rfl
  have z3:=(blk_cell K1.out 3).trans rfl
  have z4:=(blk_cell K1.out 4).trans rfl
  have z5:=(blk_cell K1.out 5).trans rfl
  by_cases hlt:i < P.length
  ·
   have hgl:=HB.out.gl
   obtain ⟨g,cap,e,hbg,hlg,cells,hcl⟩:=Kd.R_form HS.out.G (by omega)
   injection e with e1 e2 e3
   subst e1
   obtain ⟨y0,y1⟩:=Kd.R_celln false HS.out.G (i:Int) (by omega) (by omega)
   rw [Int.toNat_natCast] at y0 y1
   have hv:rdOf false gn (i:Int)=(A i).isSome:=by rw [rdOf_gone (by omega),HB.out.hgone i hlt,leave_same]
   rw [hv] at y0
   have s1:(i:Int) < (P.length:Int):=by omega
   have HNG:Aside0 (g≠g1∧g≠g2):=⟨blk_ne hcl K1.out (by decide),blk_ne hcl K2.out (by decide)⟩
   have HSB:=zF (HS.out)
   clear hv hcl hbg hlg hgl e2 e3
   cases hA:A i with
   | some x =>
    rw [hA] at y0
    have HB1:=zF (HB.out.leave_not hlt (fun h=>by rw [hA] at h;cases h.1))
    have y0:wr.cell? ⟨g,i,none⟩=some (.bool true):=y0
    clear hA HB
    go_wp2
    go_roundg (P.length - (i + 1))
    case measure=>have:=HJ.out;omega
    case rel=>exact ⟨i + 1,gn,by go_num,⟨by omega,rfl⟩,HS,HB1,HG,K1,K2⟩
   | none =>
    rw [hA] at y0
    have y0:wr.cell? ⟨g,i,none⟩=some (.bool false):=y0
    have hIi:T.Inv (datG P ord) (T.leaveL (datG P ord) A (List.range i)):=T.inv_leaveL hwf HI.out _
    have HBC:=zF (best_calls HS.out HF.out hIi HB.out hlt (by rw [leave_same];exact hA))
    rw [T.want_leave hwf _ hlt] at HBC
    by_cases hw:T.want (datG P ord) A i=0
    ·
     rw [hw] at HBC
     have HB1:=zF (HB.out.leave HF.out hlt hA hw)
     clear hw hA hIi HB
     go_wp2_with (go_at_call 52;(with_reducible refine HBC.out.mono ?_);rintro e w5 ⟨rfl,hb⟩;have HS5:=zF (HS.out.kept hb);have HG5:=zF (HG.out.trans (grown_of_below hb));have K15:=zF (blk_below K1.out hb);have K25:=zF (blk_below K2.out hb);clear hb z0 z1 z2 z3 z4 z5 y0 y1;have z3:=(blk_cell K15.out 3).trans rfl;(obtain ⟨y0,y1⟩:=Kd.R_celln false HS5.out.G (i:Int) (Int.natCast_nonneg i) s1);rw [Int.toNat_natCast] at y0 y1)
     go_roundg (P.length - (i + 1))
     case measure=>have:=HJ.out;omega
     case rel=>exact ⟨i + 1,gn.set i true,by go_num,⟨by omega,rfl⟩,⟨(HS5.out.putG i true).1⟩,HB1,⟨HG5.out.trans (HS5.out.putG i true).2⟩,⟨blk_far K15.out (fun e=>HNG.out.1 e.symm) _⟩,⟨blk_far K25.out (fun e=>HNG.out.2 e.symm) _⟩⟩
    ·
     have t0:(T.want (datG P ord) A i == 0)=false:=by rw [beq_eq_false_iff_ne];exact hw
     have HB1:=zF (HB.out.leave_not hlt (fun h=>hw h.2))
     generalize T.want (datG P ord) A i=q at *
     clear hw hA hIi HB
     go_wp2_with (go_at_call 52;(with_reducible refine HBC.out.mono ?_);rintro e w5 ⟨rfl,hb⟩;have HS5:=zF (HS.out.kept hb);have HG5:=zF (HG.out.trans (grown_of_below hb));have K15:=zF (blk_below K1.out hb);have K25:=zF (blk_below K2.out hb);clear hb z0 z1 z2 z3 z4 z5 y0 y1)
     go_roundg (P.length - (i + 1))
     case measure=>have:=HJ.out;omega
     case rel=>exact ⟨i + 1,gn,by go_num,⟨by omega,rfl⟩,HS5,HB1,HG5,K15,K25⟩
  ·
   obtain rfl:i=P.length:=by omega
   have HLv:Aside0 (T.leaveL (datG P ord) A (List.range P.length)=T.leaveA (datG P ord) A):=⟨(T.leave_eq (D:=datG P ord)).symm⟩
   have b0:=(blk_cell K2.out 0).trans rfl
   have b1:=(blk_cell K2.out 1).trans rfl
   have b2:=(blk_cell K2.out 2).trans rfl
   have b3:=(blk_cell K2.out 3).trans rfl
   have b4:=(blk_cell K2.out 4).trans rfl
   have b5:=(blk_cell K2.out 5).trans rfl
   have c0:=blk_frozen K2.out 0
   have c1:=blk_frozen K2.out 1
   have c2:=blk_frozen K2.out 2
   have c3:=blk_frozen K2.out 3
   have c4:=blk_frozen K2.out 4
   have c5:=blk_frozen K2.out 5
   go_wp2
   refine bodyPost_ret (results_cell_row rfl _ _ g2 81 #[.slice AF F.length cF,.slice AP P.length cP,.slice AO ord.length cO,.slice AG P.length cG,.slice AT tos.length cT,.slice AK tak.length cK] (0,0) _ rfl (by
    refine blk_put (cs:=#[.slice AF F.length cF,.slice AP P.length cP,.slice AO ord.length cO,.slice AG P.length cG,.slice AT tos.length cT,.slice none 0 0]) ?_ 5 _ rfl
    refine blk_put (cs:=#[.slice AF F.length cF,.slice AP P.length cP,.slice AO ord.length cO,.slice AG P.length cG,.slice none 0 0,.slice none 0 0]) ?_ 4 _ rfl
    refine blk_put (cs:=#[.slice AF F.length cF,.slice AP P.length cP,.slice AO ord.length cO,.slice none 0 0,.slice none 0 0,.slice none 0 0]) ?_ 3 _ rfl
    refine blk_put (cs:=#[.slice AF F.length cF,.slice AP P.length cP,.slice none 0 0,.slice none 0 0,.slice none 0 0,.slice none 0 0]) ?_ 2 _ rfl
    refine blk_put (cs:=#[.slice AF F.length cF,.slice none 0 0,.slice none 0 0,.slice none 0 0,.slice none 0 0,.slice none 0 0]) ?_ 1 _ rfl
    refine blk_put (cs:=#[.slice none 0 0,.slice none 0 0,.slice none 0 0,.slice none 0 0,.slice none 0 0,.slice none 0 0]) ?_ 0 _ rfl
    exact K2.out) Try.underlying81 rfl (by kernel_rfl)) rfl ?_
   have hg2:w.heap.size≤g2:=by have h1:=E2.out;have h2:=B1.out.size;omega
   have hset:∀ (W:World) (j:Nat) (u:Value) (gn:List Bool),SR w0 W AF cF F AP cP P AO cO ord (.slice AG P.length cG) (.slice AT tos.length cT) (.slice AK tak.length cK) gn tos tak→(∃ cells,W.heap[g2]? = some (.cells cells 81 (0,0)))→w0.heap.size≤g2 →
     SR w0 (W.setCell ⟨g2,j,none⟩ u) AF cF F AP cP P AO cO ord (.slice AG P.length cG) (.slice AT tos.length cT) (.slice AK tak.length cK) gn tos tak∧∃ cells,(W.setCell ⟨g2,j,none⟩ u).heap[g2]? = some (.cells cells 81 (0,0)):=fun W j u gn h hc hg=>by
    obtain ⟨cells,hc⟩:=hc
    exact ⟨⟨below_set h.below hg,h.fl,h.flc,h.par,h.parc,h.hord,h.ordc,Kd.R_set h.G hc (by decide) j u,Kd.R_set h.T hc (by decide) j u,Kd.R_set h.K hc (by decide) j u,h.ne⟩,⟨_,blk_put hc j u rfl⟩⟩
   have hw0:w0.heap.size≤g2:=Nat.le_trans HSw.out hg2
   obtain ⟨h1,k1⟩:=hset _ 0 (.slice AF F.length cF) _ HS.out ⟨_,K2.out⟩ hw0
   obtain ⟨h2,k2⟩:=hset _ 1 (.slice AP P.length cP) _ h1 k1 hw0
   obtain ⟨h3,k3⟩:=hset _ 2 (.slice AO ord.length cO) _ h2 k2 hw0
   obtain ⟨h4,k4⟩:=hset _ 3 (.slice AG P.length cG) _ h3 k3 hw0
   obtain ⟨h5,k5⟩:=hset _ 4 (.slice AT tos.length cT) _ h4 k4 hw0
   obtain ⟨h6,k6⟩:=hset _ 5 (.slice AK tak.length cK) _ h5 k5 hw0
   have hset2:∀ (W:World) (j:Nat) (u:Value),w.grownBy W (Value.slice AG P.length cG).ownBlock→w.grownBy (W.setCell ⟨g2,j,none⟩ u) (Value.slice AG P.length cG).ownBlock:=fun W j u h =>
    ⟨h.os.trans rfl |>.symm ▸ h.os,h.tape,h.output,by simpa using h.size,fun q hq hne=>(Below.heap_setCell W ⟨g2,j,none⟩ u q (by show q≠g2;omega)).trans (h.block q hq hne)⟩
   refine ⟨rfl,gn,h6,by rw [← HLv.out];exact HB.out,?_⟩
   exact hset2 _ _ _ (hset2 _ _ _ (hset2 _ _ _ (hset2 _ _ _ (hset2 _ _ _ (hset2 _ _ _ HG.out)))))
end Go.Proofs.Ytjgnkhfgmpaljaa.P
namespace Go.Proofs.Ytjgnkhfgmpaljaa.P
open Go.RowKit Go.Proofs.YtjgnkhfgmpaljaaW.PrintWords Go.Proofs.YtjgnkhfgmpaljaaW.PrintLast Go.Proofs.YtjgnkhfgmpaljaaW.PrintMore Go.Proofs.Ytjgnkhfgmpaljaa.M
open Go.Proofs.Ytjgnkhfgmpaljaa
set_option linter.unusedVariables false
set_option linter.unusedSimpArgs false
section
variable {F:List S53} {P:List S41} {ord:List Int} {gone:List Bool} {tos tak:List Int} {A:T.Asg}
/-- What the members of a cycle want, set for the first k of them. -/
def tosK (D:T.Dat) (A:T.Asg) (tos:List Int) (C:List Nat):Nat→List Int
  | 0=>tos
  | k + 1=>(tosK D A tos C k).set (C.getD k 0) (T.want D A (C.getD k 0))
theorem tosK_len (D:T.Dat) (A:T.Asg) (tos:List Int) (C:List Nat):∀ k,(tosK D A tos C k).length=tos.length
  | 0=>rfl
  | k + 1=>by unfold tosK;rw [List.length_set,tosK_len]
theorem tosK_get (D:T.Dat) (A:T.Asg) (tos:List Int) (C:List Nat) {p:Nat} (hp:p < tos.length):∀ k,k≤C.length→rd (tosK D A tos C k) (p:Int)=if p ∈ C.take k then T.want D A p else rd tos (p:Int)
  | 0,_=>by simp [tosK]
  | k + 1,hk=>by
    have ih:=tosK_get D A tos C hp k (by omega)
    have hl:=tosK_len D A tos C k
    rw [rd_get (by rw [hl];exact hp)] at ih
    have e2:C.take (k + 1)=C.take k ++ [C.getD k 0]:=by
      rw [List.take_succ_eq_append_getElem (by omega),List.getD_eq_getElem?_getD,List.getElem?_eq_getElem (by omega)];rfl
    rw [rd_get (by rw [tosK_len];exact hp)]
    simp only [tosK]
    rw [List.getElem_set,e2]
    by_cases h:C.getD k 0=p
    · rw [if_pos h,if_pos (by rw [← h];simp),h]
    · rw [if_neg h,ih]
      have:p ∈ C.take k ++ [C.getD k 0] ↔ p ∈ C.take k:=by
        rw [List.mem_append,List.mem_singleton]
        exact ⟨fun hh=>hh.resolve_right (fun e=>h e.symm),.inl⟩
      simp only [this]
theorem ring_note (hF:Fine P ord) {t:T.St} (hW:T.Wants (datG P ord) t.A) (hR:T.RI (datG P ord) t) {C:List Nat} (hC:T.Cyc (datG P ord) t.A C) {q j:Nat} (hb:T.it (T.next (datG P ord) t.A) j q=q) (he:C=T.orb (T.next (datG P ord) t.A) q j) (h0:0 < C.length) :
    (if (ringW P ord t.A C).2.2=true then putZ (ringW P ord t.A C).1 (ringW P ord t.A C).2.1 (t.l.map (ringOf P t.A)) else t.l.map (ringOf P t.A))=(T.note (datG P ord) t.A C t.l).map (ringOf P (T.exec (datG P ord) t.A C)):=by
  have hold:t.l.map (ringOf P t.A)=t.l.map (ringOf P (T.exec (datG P ord) t.A C)):=by
    refine (ring_same fun r hr p hp=>T.exec_out fun hm=>?_).symm
    exact (hR.gone r hr p hp).2 (hC.mem p hm).2
  have hmv:∀ C':List Nat,(∀ p ∈ C',p ∈ C)→C'.map (mvW P ord t.A)=C'.map (mvOf P (T.exec (datG P ord) t.A C)):=fun C' hs=>by
    refine List.map_congr_left fun p hp=>?_
    unfold mvW mvOf
    rw [T.exec_in (hs p hp)];rfl
  rw [hold]
  unfold ringW T.note
  cases hf:T.freeI (datG P ord) t.A C with
  | none =>
    rw [hmv C (fun _ h=>h)]
    by_cases h1:1 < C.length
    · simp only [decide_eq_true h1,Bool.true_or,if_true]
      unfold putZ
      rw [if_neg (by decide),if_pos h1,List.map_append];rfl
    · have hl:C.length=1:=by omega
      have hfr:=T.free_none hf 0 h0
      have hne:((rd_T39 (C.map (mvOf P (T.exec (datG P ord) t.A C))) 0).f1 != (rd_T39 (C.map (mvOf P (T.exec (datG P ord) t.A C))) 0).f2)=false:=by
        have h39:=rd39_get (l:=C.map (mvOf P (T.exec (datG P ord) t.A C))) (i:=0) (by simpa using h0)
        rw [show ((0:Nat):Int)=0 from rfl] at h39
        rw [h39,List.getElem_map]
        have hg:C[0]=C.getD 0 0:=by rw [List.getD_eq_getElem?_getD,List.getElem?_eq_getElem h0];rfl
        rw [hg]
        unfold mvOf
        rw [T.exec_in (T.getD_mem h0)]
        rcases T.cyc_tenant hW hC hb he h0 with h2|⟨h2,_⟩
        · have h3:=(T.tenant_inv h2).2.1
          rw [hl] at h3
          have h4:ownP P (C.getD 0 0)=T.want (datG P ord) t.A (C.getD 0 0):=h3
          unfold ownP at h4
          show ((rd_T41 P ((C.getD 0 0:Nat):Int)).f1 != T.want (datG P ord) t.A (C.getD 0 0))=false
          rw [h4];simp
        · rw [h2] at hfr;cases hfr
      rw [decide_eq_false h1]
      simp only [hne,Bool.false_or]
      rw [if_neg (by decide),if_neg h1]
  | some i =>
    obtain ⟨hi,_⟩:=T.free_some hf
    dsimp only
    rw [hmv (T.chained C i) (fun p hp=>T.mem_chained.1 hp)]
    rw [if_pos rfl]
    unfold putZ
    rw [if_pos rfl]
    refine putM_bind _ _ _ ?_ _ (fun r hr=>(hR.ne r hr).1)
    have hl:0 < (T.chained C i).length:=by rw [T.chained_len];exact h0
    have:=rd39_get (l:=(T.chained C i).map (mvOf P (T.exec (datG P ord) t.A C))) (i:=0) (by simpa using hl)
    rw [show ((0:Nat):Int)=0 from rfl] at this
    rw [this,List.getElem_map]
    have hg:(T.chained C i)[0]=C.getD i 0:=by
      have h2:=T.chained_get hi h0
      rw [List.getD_eq_getElem?_getD,List.getElem?_eq_getElem hl] at h2
      simp only [Option.getD_some] at h2
      rw [h2]
      congr 1
      rw [Nat.sub_zero,Nat.add_mod_right,Nat.mod_eq_of_lt hi]
    rw [hg]
    unfold mvOf
    rw [T.exec_in (T.getD_mem hi)];rfl
theorem RB.exec (hB:RB P ord gone tos tak A) {C:List Nat} (hC:∀ p ∈ C,p < P.length∧A p=none) (hl:tak.length + C.length≤1000000) :
    RB P ord (goK (ints C) gone C.length) (tosK (datG P ord) A tos C C.length) (tak ++ C.map (T.want (datG P ord) A)) (T.exec (datG P ord) A C):=by
  have hgl:=hB.gl;have htl:=hB.tl
  refine ⟨(goK_len _ _ _).trans hgl,(tosK_len _ _ _ _ _).trans htl,fun p hp=>?_,fun p hp=>?_,fun f h0=>?_,by simp;omega⟩
  · rw [goK_get gone C C.length (Nat.le_refl _) p (fun q hq=>by rw [hgl];exact (hC q hq).1) (by omega),List.take_length,hB.hgone p hp]
    by_cases hm:p ∈ C
    · rw [T.exec_in hm];simp [hm]
    · rw [T.exec_out hm];simp [hm]
  · rw [tosK_get _ _ _ _ (by omega) C.length (Nat.le_refl _),List.take_length]
    by_cases hm:p ∈ C
    · rw [if_pos hm,T.exec_in hm];rfl
    · rw [if_neg hm,T.exec_out hm,hB.htos p hp]
  · rw [List.mem_append,hB.htak f h0,T.taken_exec (D:=datG P ord) (A:=A) (C:=C) (f:=f) hC,List.mem_map]
theorem leave_keep {A:T.Asg} {p:Nat} (h:A p≠none):T.leaveA (datG P ord) A p=A p:=by unfold T.leaveA;rw [if_neg (fun hh=>h hh.2.1)]
theorem map_leave {l:List T.Rg} (h:∀ r ∈ l,∀ p ∈ r.2,A p≠none):l.map (ringOf P (T.leaveA (datG P ord) A))=l.map (ringOf P A):=ring_same fun r hr p hp=>leave_keep (h r hr p hp)
/-- The end: what the program's Solve gives. -/
theorem tos_final (hF:Fine P ord) (hB:RB P ord gone tos tak (T.final (datG P ord)).A):tos=(finalG P ord).tos:=by
  have hb:=(final_bind hF).2
  have h1:=hB.tl;have h2:=hb.tl
  refine List.ext_getElem (by omega) (fun i a b=>?_)
  have h3:=hB.htos i (by omega)
  have h4:=hb.tos i (by omega)
  rw [rd_get a] at h3
  rw [rd_get b] at h4
  rw [h3,h4]
theorem rings_final (hF:Fine P ord):(finalG P ord).rg=(T.final (datG P ord)).l.map (ringOf P (T.final (datG P ord)).A):=(final_bind hF).2.rg
theorem moves_final (P:List S41) (tos:List Int):(List.range P.length).map (outAt P tos)=outM P tos P.length:=by
  refine List.ext_getElem (by simp [outM_len]) (fun i h1 h2=>?_)
  have hi:i < P.length:=by simpa using h1
  have:=outM_get P tos P.length (Nat.le_refl _) i hi
  rw [rd39_get h2,if_pos hi] at this
  rw [this];simp
end
/-- The state where the steps begin. -/
structure RunAt (P:List S41) (ord:List Int) (t:T.St) (tak:List Int):Prop where
  I:T.Inv (datG P ord) t.A
  W:T.Wants (datG P ord) t.A
  R:T.RI (datG P ord) t
  run:∃ m,T.left (datG P ord) t.A < m∧T.runS (datG P ord) m t=T.final (datG P ord)
  tk:tak.length≤64 * (P.length - T.left (datG P ord) t.A)
theorem run_start {P:List S41} {ord:List Int} (hF:Fine P ord):RunAt P ord (T.start (datG P ord)) []:=by
  have hwf:=fine_wf hF
  have hl:=T.left_le (D:=datG P ord) (T.leaveA (datG P ord) fun _=>none)
  exact ⟨T.inv_leave hwf (T.inv0 hwf),T.wants_leave hwf,T.ri_leave hwf T.ri0,⟨P.length + 1,by show T.left (datG P ord) (T.leaveA (datG P ord) fun _=>none) < _;have:T.left (datG P ord) (T.leaveA (datG P ord) fun _=>none)≤P.length:=hl;omega,rfl⟩,by simp⟩
theorem run_end {P:List S41} {ord:List Int} {t:T.St} {tak:List Int} (h:RunAt P ord t tak) (he:((datG P ord).order.find? fun p=>(t.A p).isNone)=none):t=T.final (datG P ord):=by
  obtain ⟨m,hm,hr⟩:=h.run
  obtain ⟨k,rfl⟩:∃ k,m=k + 1:=⟨m - 1,by omega⟩
  rw [← hr]
  unfold T.runS
  rw [he];rfl
/-- What a step finds. -/
theorem run_cyc {P:List S41} {ord:List Int} {t:T.St} {tak:List Int} (hF:Fine P ord) (h:RunAt P ord t tak) {p:Nat} (he:((datG P ord).order.find? fun p=>(t.A p).isNone)=some p) :
    ∃ C q j,T.findC (datG P ord) t.A=some C∧T.Cyc (datG P ord) t.A C∧C.Nodup∧C=T.orb (T.next (datG P ord) t.A) q j∧T.it (T.next (datG P ord) t.A) j q=q∧0 < C.length∧C.length≤64:=by
  have hwf:=fine_wf hF
  have ha:t.A p=none:=by have:=List.find?_some he;simpa using this
  have hp:p < P.length:=hwf.bd p (List.mem_of_find?_eq_some he)
  obtain ⟨C,h1,h2,h3,q,j,_,_,_,h4,h5⟩:=T.findC_some hwf hp ha
  have hlt:=T.nodup_bd P.length C h3 (fun x hx=>(h2.mem x hx).1)
  have:=hF.n
  exact ⟨C,q,j,h1,h2,h3,h4,h5,List.length_pos_iff.2 h2.ne,by omega⟩
theorem run_next {P:List S41} {ord:List Int} {t:T.St} {tak:List Int} (hF:Fine P ord) (h:RunAt P ord t tak) {p:Nat} (he:((datG P ord).order.find? fun p=>(t.A p).isNone)=some p) {C:List Nat} {q j:Nat} (hc:T.findC (datG P ord) t.A=some C)
    (h2:T.Cyc (datG P ord) t.A C) (h3:C.Nodup) (h4:C=T.orb (T.next (datG P ord) t.A) q j) (h5:T.it (T.next (datG P ord) t.A) j q=q) (h6:C.length≤64) :
    RunAt P ord ⟨T.leaveA (datG P ord) (T.exec (datG P ord) t.A C),T.note (datG P ord) t.A C t.l⟩ (tak ++ C.map (T.want (datG P ord) t.A))∧T.left (datG P ord) (T.leaveA (datG P ord) (T.exec (datG P ord) t.A C)) < T.left (datG P ord) t.A ∧
      (∀ r ∈ T.note (datG P ord) t.A C t.l,∀ p ∈ r.2,T.exec (datG P ord) t.A C p≠none):=by
  have hwf:=fine_wf hF
  have hR:=T.ri_exec hwf h.I h.W h.R h2 h3 h5 h4
  have hl:=T.left_exec h2
  have hl2:=T.left_leave (D:=datG P ord) (A:=T.exec (datG P ord) t.A C) hwf
  have hl3:T.left (datG P ord) t.A≤P.length:=T.left_le _
  obtain ⟨m,hm,hr⟩:=h.run
  obtain ⟨k,rfl⟩:∃ k,m=k + 1:=⟨m - 1,by omega⟩
  refine ⟨⟨T.inv_leave hwf (T.inv_exec hwf h.I h2),T.wants_leave hwf,T.ri_leave (s:=⟨T.exec (datG P ord) t.A C,T.note (datG P ord) t.A C t.l⟩) hwf hR,⟨k,by show T.left _ (T.leaveA _ _) < k;omega,?_⟩,?_⟩,by omega,fun r hr p hp=>(hR.gone r hr p hp).2⟩
  · rw [← hr]
    conv=>rhs;unfold T.runS
    rw [he]
    show _=T.runS (datG P ord) k (T.stepS (datG P ord) t)
    unfold T.stepS
    rw [hc];rfl
  · have:=h.tk
    rw [List.length_append,List.length_map]
    show _≤64 * (P.length - T.left (datG P ord) (T.leaveA (datG P ord) (T.exec (datG P ord) t.A C)))
    omega
end Go.Proofs.Ytjgnkhfgmpaljaa.P
namespace Go.Proofs.Ytjgnkhfgmpaljaa.P
open Go.RowKit Go.Proofs.YtjgnkhfgmpaljaaW.PrintWords Go.Proofs.YtjgnkhfgmpaljaaW.PrintLast Go.Proofs.YtjgnkhfgmpaljaaW.PrintMore Go.Proofs.Ytjgnkhfgmpaljaa.M
open Go.Proofs.Ytjgnkhfgmpaljaa
set_option linter.unusedVariables false
set_option linter.unusedSimpArgs false
section
variable {w0 w w':World} {AF:Option Addr} {cF:Nat} {F:List S53} {AP:Option Addr} {cP:Nat} {P:List S41} {AO:Option Addr} {cO:Nat} {ord:List Int} {vG vT vK:Value} {gone:List Bool} {tos tak:List Int} {A:T.Asg}
theorem first_calls2 (h:SR w0 w AF cF F AP cP P AO cO ord vG vT vK gone tos tak) (hF:Fine P ord) (hB:RB P ord gone tos tak A) :
  Calls Try.prog 48 #[.agg #[.slice AF F.length cF,.slice AP P.length cP,.slice AO ord.length cO,vG,vT,vK]] w (fun e w'=>e = .returned (.int .i64 (natZ ((datG P ord).order.find? fun p=>(A p).isNone)))∧Below w.heap.size w w'):=by
 obtain ⟨AG,cG,rfl,hcG,hG⟩:=Kd.R_reads h.G
 obtain ⟨AT,cT,rfl,hcT,hT⟩:=Kd.R_reads h.T
 obtain ⟨AK,cK,rfl,hcK,hK⟩:=Kd.R_reads h.K
 obtain ⟨k,hk⟩:=(first_ev (F:=F) hB hF).rounds
 exact cohousingref24_first.calls k _ _ _ _ _ _ _ _ _ _ _ _ _ _ _ _ _ _ _ w h.flW h.flc h.parW h.parc h.ordW h.ordc hG hcG hT hcT hK hcK hk
theorem cycle_calls2 (h:SR w0 w AF cF F AP cP P AO cO ord vG vT vK gone tos tak) (hF:Fine P ord) (hB:RB P ord gone tos tak A) (hI:T.Inv (datG P ord) A) (hW:T.Wants (datG P ord) A) {p:Nat} (hp:p < P.length) (ha:A p=none) :
  Calls Try.prog 49 #[.agg #[.slice AF F.length cF,.slice AP P.length cP,.slice AO ord.length cO,vG,vT,vK],.int .i64 p] w (fun e w'=>∃ v:Value,e = .returned v∧Kd.R (Kd.int .i64) 3 w' w.heap.size (fun _=>True) v (cycR (T.cycleAt (datG P ord) A p))∧Below w.heap.size w w'):=by
 obtain ⟨AG,cG,rfl,hcG,hG⟩:=Kd.R_reads h.G
 obtain ⟨AT,cT,rfl,hcT,hT⟩:=Kd.R_reads h.T
 obtain ⟨AK,cK,rfl,hcK,hK⟩:=Kd.R_reads h.K
 obtain ⟨k,hk⟩:=(cycle_ev (F:=F) hB hF hI hW hp ha).rounds
 exact cohousingref24_cycle.calls k _ _ _ _ _ _ _ _ _ _ _ _ _ _ _ _ _ _ _ _ w h.flW h.flc h.parW h.parc h.ordW h.ordc hG hcG hT hcT hK hcK hk
theorem ring_calls2 (h:SR w0 w AF cF F AP cP P AO cO ord vG vT vK gone tos tak) (hF:Fine P ord) (hB:RB P ord gone tos tak A) (hI:T.Inv (datG P ord) A) {C:List Nat} (hC:∀ p ∈ C,p < P.length∧A p=none) (h0:0 < C.length) (hl:C.length≤1000) (AL:Option Addr) (cL:Nat) (hL:(Kd.int .i64).C w AL (ints C).length (ints C)) (hcL:(ints C).length≤cL) :
  Calls Try.prog 50 #[.agg #[.slice AF F.length cF,.slice AP P.length cP,.slice AO ord.length cO,vG,vT,vK],.slice AL (ints C).length cL] w (fun e w'=>∃ v:Value,e = .returned (.tuple #[.agg #[.bool (ringW P ord A C).1,v],.bool (ringW P ord A C).2.2])∧Kd.R k39 39 w' w.heap.size (fun _=>True) v (ringW P ord A C).2.1∧Below w.heap.size w w'):=by
 obtain ⟨AG,cG,rfl,hcG,hG⟩:=Kd.R_reads h.G
 obtain ⟨AT,cT,rfl,hcT,hT⟩:=Kd.R_reads h.T
 obtain ⟨AK,cK,rfl,hcK,hK⟩:=Kd.R_reads h.K
 obtain ⟨k,hk⟩:=(ring_ev (F:=F) hB hF hI hC h0 hl).rounds
 exact cohousingref24_ring.calls k _ _ _ _ _ _ _ _ _ _ _ _ _ _ _ _ _ _ _ _ _ _ _ _ w h.flW h.flc h.parW h.parc h.ordW h.ordc hG hcG hT hcT hK hcK hL hcL hk
/-- best, whatever the flats given so far are said to be. -/
theorem best_calls2 (h:SR w0 w AF cF F AP cP P AO cO ord vG vT vK gone tos tak) (hF:Fine P ord) (hI:T.Inv (datG P ord) A) {gone':List Bool} {tos':List Int} (hB:RB P ord gone' tos' tak A) {p:Nat} (hp:p < P.length) (ha:A p=none) :
  Calls Try.prog 52 #[.agg #[.slice AF F.length cF,.slice AP P.length cP,.slice AO ord.length cO,vG,vT,vK],.int .i64 p] w (fun e w'=>e = .returned (.int .i64 (T.want (datG P ord) A p))∧Below w.heap.size w w'):=by
 obtain ⟨AG,cG,rfl,hcG,hG⟩:=Kd.R_reads h.G
 obtain ⟨AT,cT,rfl,hcT,hT⟩:=Kd.R_reads h.T
 obtain ⟨AK,cK,rfl,hcK,hK⟩:=Kd.R_reads h.K
 have hev:Ev (fun k=>cohousingref24_best.f k F P ord gone tos tak (p:Int)) (T.want (datG P ord) A p):=by
  have h1:=best_ev (F:=F) hF hI hB hp ha
  have e:∀ k (l:List Int) (i:Int),cohousingref24_best.l0 k l i F P ord gone tos tak=cohousingref24_best.l0 k l i F P ord gone' tos' tak:=by
   intro k
   induction k with
   | zero=>intro l i;rfl
   | succ k ih=>intro l i;simp only [cohousingref24_best.l0,ih]
  have e2:∀ k,cohousingref24_best.f k F P ord gone tos tak (p:Int)=cohousingref24_best.f k F P ord gone' tos' tak (p:Int):=fun k=>by simp only [cohousingref24_best.f,e]
  simpa only [e2] using h1
 obtain ⟨k,hk⟩:=hev.rounds
 exact cohousingref24_best.calls k _ _ _ _ _ _ _ _ _ _ _ _ _ _ _ _ _ _ _ _ w h.flW h.flc h.parW h.parc h.ordW h.ordc hG hcG hT hcT hK hcK hk
/-- A store into a block of another type. -/
theorem SR.set (h:SR w0 w AF cF F AP cP P AO cO ord vG vT vK gone tos tak) {g:Nat} {cells:Array Value} (hc:w.heap[g]? = some (.cells cells 81 (0,0))) (hg:w0.heap.size≤g) (j:Nat) (u:Value) :
  SR w0 (w.setCell ⟨g,j,none⟩ u) AF cF F AP cP P AO cO ord vG vT vK gone tos tak :=
 ⟨below_set h.below hg,h.fl,h.flc,h.par,h.parc,h.hord,h.ordc,Kd.R_set h.G hc (by decide) j u,Kd.R_set h.T hc (by decide) j u,Kd.R_set h.K hc (by decide) j u,h.ne⟩
/-- A store into the row of what is given. -/
theorem SR.putT {g c n:Nat} (h:SR w0 w AF cF F AP cP P AO cO ord vG (.slice (some ⟨g,0,none⟩) n c) vK gone tos tak) (p:Nat) (x:Int) :
  SR w0 (w.setCell ⟨g,p,none⟩ (.int .i64 x)) AF cF F AP cP P AO cO ord vG (.slice (some ⟨g,0,none⟩) n c) vK gone (tos.set p x) tak∧w.grownBy (w.setCell ⟨g,p,none⟩ (.int .i64 x)) (some g):=by
 obtain ⟨rfl,_⟩:=Kd.R_reads' h.T
 have hgb:w0.heap.size≤g:=Kd.R_base h.T g rfl
 obtain ⟨cells,hc⟩:=own_typed (Kd.R_own h.T).choose_spec g rfl
 have h1:=Kd.R_put h.T (p:Int) x
 rw [Int.toNat_natCast] at h1
 exact ⟨⟨below_set h.below hgb,h.fl,h.flc,h.par,h.parc,h.hord,h.ordc,Kd.R_set h.G hc (by decide) p _,h1.1,Kd.R_grown2 h.K rfl h1.2 (fun k hk=>by injection hk with hk;subst hk;exact h.ne g rfl),h.ne⟩,h1.2⟩
/-- Another value of the taken ones, behind an append. -/
theorem SR.newK {vK':Value} {tak':List Int} (h:SR w0 w AF cF F AP cP P AO cO ord vG vT vK gone tos tak) (hg:w.grownBy w' vK.ownBlock) (hb:Below w0.heap.size w0 w') (hK:Kd.R (Kd.int .i64) 3 w' w0.heap.size (fun _=>True) vK' tak') (hat:vK'.ownBlock=vK.ownBlock ∨ ∃ b,vK'.ownBlock=some b∧w.heap.size≤b) :
  SR w0 w' AF cF F AP cP P AO cO ord vG vT vK' gone tos tak':=by
 refine ⟨hb,h.fl,h.flc,h.par,h.parc,h.hord,h.ordc,Kd.R_over' h.G (Kd.R_typed h.K) (by decide) hg,Kd.R_grown2 h.T rfl hg (fun k hk e=>h.ne k e.symm hk.symm),hK,fun k hk e=>?_⟩
 rcases hat with h1|⟨b,h1,h2⟩
 ·
  rw [h1] at e;exact h.ne k hk e
 ·
  rw [h1] at e;injection e with e;subst e
  have:=Kd.R_lt h.T k hk;omega
/-- put leaves the state's rows. -/
theorem SR.keptP (h:SR w0 w AF cF F AP cP P AO cO ord vG vT vK gone tos tak) (hk:Kept w w' (PutW w)) (hb:Below w0.heap.size w0 w'):SR w0 w' AF cF F AP cP P AO cO ord vG vT vK gone tos tak:=by
 have row:∀ {k t:Nat} {cells:Array Value},w.heap[k]? = some (.cells cells t (0,0))→(t=3 ∨ t=4)→¬ PutW w k:=fun {k t cells} hk ht hp=>by
  obtain ⟨q,hq,cells',hc⟩:=hp
  rw [hk] at hc
  injection hc with hc;injection hc with _ hc
  rcases ht with ht|ht <;> rcases hq with hq|hq <;> rw [ht,hq] at hc <;> exact absurd hc (by decide)
 refine ⟨hb,h.fl,h.flc,h.par,h.parc,h.hord,h.ordc,?_,?_,?_,h.ne⟩
 ·
  refine Kd.R_mono (Kd.R_kept (Kd.R_bound h.G) hk (fun k hk=>?_)) (fun _ _=>trivial)
  obtain ⟨_,_,_,q,hq,cells,hc⟩:=hk
  have:q ∈ [4]:=hq
  exact row hc (.inr (by simpa using this))
 ·
  refine Kd.R_mono (Kd.R_kept (Kd.R_bound h.T) hk (fun k hk=>?_)) (fun _ _=>trivial)
  obtain ⟨_,_,_,q,hq,cells,hc⟩:=hk
  have:q ∈ [3]:=hq
  exact row hc (.inl (by simpa using this))
 ·
  refine Kd.R_mono (Kd.R_kept (Kd.R_bound h.K) hk (fun k hk=>?_)) (fun _ _=>trivial)
  obtain ⟨_,_,_,q,hq,cells,hc⟩:=hk
  have:q ∈ [3]:=hq
  exact row hc (.inl (by simpa using this))
end
/-- The rings stay where only blocks of other types are written. -/
theorem S_ty {w w':World} {base:Nat} {v:Value} {l:List S47} (h:Kd.S k47 47 w base (fun _=>True) v l) (hx:∀ k,k < w.heap.size→w'.heap[k]? = w.heap[k]? ∨ ∃ q cells,w.heap[k]? = some (.cells cells q (0,0))∧q≠47∧q≠39):Kd.S k47 47 w' base (fun _=>True) v l:=by
 obtain ⟨f,hR⟩:=h
 refine ⟨f,Kd.R_mono (Kd.R_move (Kd.R_bound hR) (fun k hk=>?_)) (fun _ _=>trivial)⟩
 obtain ⟨_,_,hlt,q,hq,cells,hc⟩:=hk
 rcases hx k hlt with h1|⟨q',cells',h1,h2,h3⟩
 ·
  exact h1
 ·
  exfalso
  rw [h1] at hc
  injection hc with hc;injection hc with _ hc
  have hq2:q ∈ [47,39]:=hq
  simp only [List.mem_cons,List.not_mem_nil,or_false] at hq2
  rcases hq2 with e|e
  ·
   exact h2 (hc.trans e)
  ·
   exact h3 (hc.trans e)
theorem ty_grown {w w':World} {v:Value} {t:Nat} (hg:w.grownBy w' v.ownBlock) (hv:∀ k,v.ownBlock=some k→∃ cells,w.heap[k]? = some (.cells cells t (0,0))) (h1:t≠47) (h2:t≠39) (k:Nat) (hk:k < w.heap.size) :
  w'.heap[k]? = w.heap[k]? ∨ ∃ q cells,w.heap[k]? = some (.cells cells q (0,0))∧q≠47∧q≠39:=by
 by_cases e:v.ownBlock=some k
 ·
  obtain ⟨cells,hc⟩:=hv k e
  exact .inr ⟨t,cells,hc,h1,h2⟩
 ·
  exact .inl (hg.block k hk (fun h=>e h.symm))
theorem st4 {w W W':World} {A0 A1 A2 AG AT:Option Addr} {c0 c1 c2 cG cT:Nat} {F:List S53} {P:List S41} {ord:List Int} {vK:Value} {gn:List Bool} {ts tk:List Int} {gs:Nat} {a b c d e f:Value}
  (h:SR w W A0 c0 F A1 c1 P A2 c2 ord (.slice AG P.length cG) (.slice AT P.length cT) vK gn ts tk) (hc:W.heap[gs]? = some (.cells #[a,b,c,d,e,f] 81 (0,0))) (hg:w.heap.size≤gs)
  (hw:W'=(((((W.setCell ⟨gs,0,none⟩ (.slice A0 F.length c0)).setCell ⟨gs,1,none⟩ (.slice A1 P.length c1)).setCell ⟨gs,2,none⟩ (.slice A2 ord.length c2)).setCell ⟨gs,3,none⟩ (.slice AG P.length cG)).setCell ⟨gs,4,none⟩ (.slice AT P.length cT)).setCell ⟨gs,5,none⟩ vK) :
  SR w W' A0 c0 F A1 c1 P A2 c2 ord (.slice AG P.length cG) (.slice AT P.length cT) vK gn ts tk∧W'.heap[gs]? = some (.cells #[.slice A0 F.length c0,.slice A1 P.length c1,.slice A2 ord.length c2,.slice AG P.length cG,.slice AT P.length cT,vK] 81 (0,0))∧∀ k,k≠gs→W'.heap[k]? = W.heap[k]?:=by
 have c1_:=blk_put hc 0 (.slice A0 F.length c0) rfl
 have h1:=h.set hc hg 0 (.slice A0 F.length c0)
 have c2_:=blk_put c1_ 1 (.slice A1 P.length c1) rfl
 have h2:=h1.set c1_ hg 1 (.slice A1 P.length c1)
 have c3_:=blk_put c2_ 2 (.slice A2 ord.length c2) rfl
 have h3:=h2.set c2_ hg 2 (.slice A2 ord.length c2)
 have c4_:=blk_put c3_ 3 (.slice AG P.length cG) rfl
 have h4:=h3.set c3_ hg 3 (.slice AG P.length cG)
 have c5_:=blk_put c4_ 4 (.slice AT P.length cT) rfl
 have h5:=h4.set c4_ hg 4 (.slice AT P.length cT)
 have c6_:=blk_put c5_ 5 vK rfl
 have h6:=h5.set c5_ hg 5 vK
 have far:∀ (W':World) (j:Nat) (u:Value) (k:Nat),k≠gs→(W'.setCell ⟨gs,j,none⟩ u).heap[k]? = W'.heap[k]?:=fun W' j u k hk=>Below.heap_setCell W' ⟨gs,j,none⟩ u k hk
 subst hw
 exact ⟨h6,c6_,fun k hk=>by rw [far _ _ _ _ hk,far _ _ _ _ hk,far _ _ _ _ hk,far _ _ _ _ hk,far _ _ _ _ hk,far _ _ _ _ hk]⟩
theorem ty_far {W W':World} {gs t:Nat} {cells:Array Value} (hc:W.heap[gs]? = some (.cells cells t (0,0))) (h1:t≠47) (h2:t≠39) (h:∀ k,k≠gs→W'.heap[k]? = W.heap[k]?) (k:Nat) (hk:k < W.heap.size) :
  W'.heap[k]? = W.heap[k]? ∨ ∃ q cells,W.heap[k]? = some (.cells cells q (0,0))∧q≠47∧q≠39:=by
 by_cases e:k=gs
 ·
  subst e;exact .inr ⟨t,cells,hc,h1,h2⟩
 ·
  exact .inl (h k e)
theorem rb_start (P:List S41) (ord:List Int):RB P ord (List.replicate P.length false) (List.replicate P.length 0) [] (fun _=>none):=by
 refine ⟨by simp,by simp,fun p hp=>?_,fun p hp=>?_,fun f h0=>?_,by simp⟩
 ·
  rw [List.getD_eq_getElem?_getD,List.getElem?_replicate]
  split <;> rfl
 ·
  rw [rd_get (by simpa using hp)];simp
 ·
  unfold T.takenB;simp
end Go.Proofs.Ytjgnkhfgmpaljaa.P
namespace Go.Proofs.Ytjgnkhfgmpaljaa.P
open Go.RowKit Go.Proofs.YtjgnkhfgmpaljaaW.PrintWords Go.Proofs.YtjgnkhfgmpaljaaW.PrintLast Go.Proofs.YtjgnkhfgmpaljaaW.PrintMore Go.Proofs.Ytjgnkhfgmpaljaa.M
open Go.Proofs.Ytjgnkhfgmpaljaa
set_option linter.unusedVariables false
set_option linter.unusedSimpArgs false
section
variable {w0 w w' w2:World} {AF:Option Addr} {cF:Nat} {F:List S53} {AP:Option Addr} {cP:Nat} {P:List S41} {AO:Option Addr} {cO:Nat} {ord:List Int} {vG vT vK:Value} {gone:List Bool} {tos tak:List Int} {A:T.Asg}
theorem putT_all {g c n:Nat} (h:SR w0 w AF cF F AP cP P AO cO ord vG (.slice (some ⟨g,0,none⟩) n c) vK gone tos tak) (p:Nat) (x:Int) {gs g2 base:Nat} {cs cm:Array Value} {v vR:Value} {l:List Int} {rn:List S47}
  (hs:w.heap[gs]? = some (.cells cs 81 (0,0))) (hm:w.heap[g2]? = some (.cells cm 25 (0,0))) (hl:LRow w2 w v l) (hlt:g < w2.heap.size) (hr:Kd.S k47 47 w base (fun _=>True) vR rn) :
  SR w0 (w.setCell ⟨g,p,none⟩ (.int .i64 x)) AF cF F AP cP P AO cO ord vG (.slice (some ⟨g,0,none⟩) n c) vK gone (tos.set p x) tak∧(w.setCell ⟨g,p,none⟩ (.int .i64 x)).heap[gs]? = some (.cells cs 81 (0,0)) ∧
  (w.setCell ⟨g,p,none⟩ (.int .i64 x)).heap[g2]? = some (.cells cm 25 (0,0))∧LRow w2 (w.setCell ⟨g,p,none⟩ (.int .i64 x)) v l∧Kd.S k47 47 (w.setCell ⟨g,p,none⟩ (.int .i64 x)) base (fun _=>True) vR rn:=by
 obtain ⟨h1,hg⟩:=h.putT p x
 have hg':w.grownBy (w.setCell ⟨g,p,none⟩ (.int .i64 x)) (Value.slice (some ⟨g,0,none⟩) n c).ownBlock:=hg
 exact ⟨h1,blk_grown hs hg' (Kd.R_ne h.T hs (by decide)),blk_grown hm hg' (Kd.R_ne h.T hm (by decide)),hl.set_ (p:=⟨g,p,none⟩) hlt _,S_ty hr (ty_grown hg' (Kd.R_typed h.T) (by decide) (by decide))⟩
theorem putG_all {g c n:Nat} (h:SR w0 w AF cF F AP cP P AO cO ord (.slice (some ⟨g,0,none⟩) n c) vT vK gone tos tak) (p:Nat) (x:Bool) {gs g2 base:Nat} {cs cm:Array Value} {v vR:Value} {l:List Int} {rn:List S47}
  (hs:w.heap[gs]? = some (.cells cs 81 (0,0))) (hm:w.heap[g2]? = some (.cells cm 25 (0,0))) (hl:LRow w2 w v l) (hlt:g < w2.heap.size) (hr:Kd.S k47 47 w base (fun _=>True) vR rn) :
  SR w0 (w.setCell ⟨g,p,none⟩ (.bool x)) AF cF F AP cP P AO cO ord (.slice (some ⟨g,0,none⟩) n c) vT vK (gone.set p x) tos tak∧(w.setCell ⟨g,p,none⟩ (.bool x)).heap[gs]? = some (.cells cs 81 (0,0)) ∧
  (w.setCell ⟨g,p,none⟩ (.bool x)).heap[g2]? = some (.cells cm 25 (0,0))∧LRow w2 (w.setCell ⟨g,p,none⟩ (.bool x)) v l∧Kd.S k47 47 (w.setCell ⟨g,p,none⟩ (.bool x)) base (fun _=>True) vR rn:=by
 obtain ⟨h1,hg⟩:=h.putG p x
 have hg':w.grownBy (w.setCell ⟨g,p,none⟩ (.bool x)) (Value.slice (some ⟨g,0,none⟩) n c).ownBlock:=hg
 exact ⟨h1,blk_grown hs hg' (Kd.R_ne h.G hs (by decide)),blk_grown hm hg' (Kd.R_ne h.G hm (by decide)),hl.set_ (p:=⟨g,p,none⟩) hlt _,S_ty hr (ty_grown hg' (Kd.R_typed h.G) (by decide) (by decide))⟩
/-- Behind the append to what is taken. -/
theorem app_all {vK':Value} {tak':List Int} (h:SR w0 w AF cF F AP cP P AO cO ord vG vT vK gone tos tak) (hg:w.grownBy w' vK.ownBlock) (hb:Below w0.heap.size w0 w') (hK:Kd.R (Kd.int .i64) 3 w' w0.heap.size (fun _=>True) vK' tak') (hat:vK'.ownBlock=vK.ownBlock ∨ ∃ b,vK'.ownBlock=some b∧w.heap.size≤b)
  {gs g2 base:Nat} {cs cm:Array Value} {v vR:Value} {l:List Int} {rn:List S47} (hs:w.heap[gs]? = some (.cells cs 81 (0,0))) (hm:w.heap[g2]? = some (.cells cm 25 (0,0))) (hl:LRow w2 w v l) (hne:∀ k,v.ownBlock=some k→some k≠vK.ownBlock) (hr:Kd.S k47 47 w base (fun _=>True) vR rn) :
  SR w0 w' AF cF F AP cP P AO cO ord vG vT vK' gone tos tak'∧w'.heap[gs]? = some (.cells cs 81 (0,0))∧w'.heap[g2]? = some (.cells cm 25 (0,0))∧LRow w2 w' v l∧(∀ k,v.ownBlock=some k→some k≠vK'.ownBlock)∧Kd.S k47 47 w' base (fun _=>True) vR rn:=by
 refine ⟨h.newK hg hb hK hat,blk_grown hs hg (Kd.R_ne h.K hs (by decide)),blk_grown hm hg (Kd.R_ne h.K hm (by decide)),Kd.R_grown2 hl rfl hg (fun k hk e=>hne k e.symm hk.symm),fun k hk e=>?_,S_ty hr (ty_grown hg (Kd.R_typed h.K) (by decide) (by decide))⟩
 rcases hat with h1|⟨b,h1,h2⟩
 ·
  rw [h1] at e;exact hne k hk e
 ·
  rw [h1] at e;injection e with e;subst e
  have:=Kd.R_lt hl k hk;omega
/-- Behind the store of that row into the state's block. -/
theorem set5_all {vK':Value} (h:SR w0 w AF cF F AP cP P AO cO ord vG vT vK' gone tos tak) {gs g2 base:Nat} {a b c d e f u:Value} {cm:Array Value} {v vR:Value} {l:List Int} {rn:List S47} (hs:w.heap[gs]? = some (.cells #[a,b,c,d,e,f] 81 (0,0))) (hm:w.heap[g2]? = some (.cells cm 25 (0,0)))
  (hl:LRow w2 w v l) (hr:Kd.S k47 47 w base (fun _=>True) vR rn) (hgs:w0.heap.size≤gs) (hne:g2≠gs) :
  SR w0 (w.setCell ⟨gs,5,none⟩ u) AF cF F AP cP P AO cO ord vG vT vK' gone tos tak∧(w.setCell ⟨gs,5,none⟩ u).heap[gs]? = some (.cells #[a,b,c,d,e,u] 81 (0,0))∧(w.setCell ⟨gs,5,none⟩ u).heap[g2]? = some (.cells cm 25 (0,0))∧LRow w2 (w.setCell ⟨gs,5,none⟩ u) v l∧Kd.S k47 47 (w.setCell ⟨gs,5,none⟩ u) base (fun _=>True) vR rn:=by
 refine ⟨h.set hs hgs 5 u,blk_put hs 5 u rfl,(Below.heap_setCell w ⟨gs,5,none⟩ u g2 hne).trans hm,?_,S_ty hr (ty_far hs (by decide) (by decide) fun k hk=>Below.heap_setCell w ⟨gs,5,none⟩ u k hk)⟩
 exact Kd.R_set hl hs (by decide) 5 u
end
end Go.Proofs.Ytjgnkhfgmpaljaa.P
