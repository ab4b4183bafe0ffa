/- Lemmas, readings of functions as plain Lean functions and contracts of functions of the program, for the claimed theorem; each one's conditions stand in its statement. -/
import Derived.Test.YtjgnkhfgmpaljaaQTD7
import Derived.Test.YtjgnkhfgmpaljaaQTD10
import Derived.Test.YtjgnkhfgmpaljaaQTD1
import Derived.Deep.QuietTactic
import Derived.BigQuiet
import Derived.Deep.RegionHeld3
namespace Go.Proofs.Ytjgnkhfgmpaljaa.P
open Go.RowKit Go.Proofs.YtjgnkhfgmpaljaaW.PrintWords Go.Proofs.YtjgnkhfgmpaljaaW.PrintLast Go.Proofs.YtjgnkhfgmpaljaaW.PrintMore Go.Proofs.Ytjgnkhfgmpaljaa.M
open Go.Maps (Keyed int_keyed keyOf_int_mk)
set_option linter.unusedVariables false
set_option linter.unusedSimpArgs false
theorem keyInt:Keyed Try.prog 3:=int_keyed Try.underlying3
def okI (x:Int):Prop:=-9223372036854775808≤x∧x≤9223372036854775807
theorem okI_wf {x:Int} (h:okI x):(Lit.int .i64 x).wf=true:=WalkArith.wf_i64 (by unfold okI at h;omega)
theorem okI_key {x:Int} (h:okI x):keyOf Try.prog 3 (.int .i64 x)=some (.int .i64 x):=keyOf_int_mk Try.underlying3 (okI_wf h)
theorem zeroI (W:World):(zeroValue 3).run Try.prog W = .ok (.int .i64 0) W:=by kernel_rfl
theorem zeroB (W:World):(zeroValue 4).run Try.prog W = .ok (.bool false) W:=by kernel_rfl
theorem rd41_get {l:List S41} {i:Nat} (h:i < l.length):rd_T41 l (i:Int)=l[i]:=by
 unfold rd_T41
 rw [Int.toNat_natCast,List.getD_eq_getElem?_getD,List.getElem?_eq_getElem h];rfl
theorem rd41_mem {l:List S41} {i:Nat} (h:i < l.length):rd_T41 l (i:Int) ∈ l:=by rw [rd41_get h];exact List.getElem_mem h
theorem rd_get {l:List Int} {i:Nat} (h:i < l.length):rd l (i:Int)=l[i]:=by
 unfold rd
 rw [Int.toNat_natCast,List.getD_eq_getElem?_getD,List.getElem?_eq_getElem h];rfl
/-- What the game's fields say. -/
structure GS where
 P:List S41
 ord:List Int
 ten:Int→Option Int
 gone:List Bool
 tak:Int→Option Bool
 tos:List Int
 rg:List S47
/-- Where they lie. -/
structure GA where
 g:Nat
 bt:Nat
 bk:Nat
 AF:Option Addr
 nF:Nat
 cF:Nat
 AP:Option Addr
 cP:Nat
 AO:Option Addr
 cO:Nat
 vG:Value
 vT:Value
def gcells (a:GA) (s:GS) (vR:Value):Array Value:=#[.slice a.AF a.nF a.cF,.slice a.AP s.P.length a.cP,.slice a.AO s.ord.length a.cO,.map (some a.bt),a.vG,.map (some a.bk),a.vT,vR]
/-- The game lies at block a.g of w, as s tells it; w0: the world where Solve began. -/
structure GAt (w0 w:World) (a:GA) (s:GS) (vR:Value):Prop where
 below:Below w0.heap.size w0 w
 blk:w.heap[a.g]? = some (.cells (gcells a s vR) 78 (0,0))
 gb:w0.heap.size≤a.g
 tb:w0.heap.size≤a.bt
 kb:w0.heap.size≤a.bk
 par:k41.C w0 a.AP s.P.length s.P
 parc:s.P.length≤a.cP
 ord:(Kd.int .i64).C w0 a.AO s.ord.length s.ord
 ordc:s.ord.length≤a.cO
 ten:∃ n,MapAt w Try.prog 3 a.bt (intF (Value.int .i64) s.ten) n
 gone:Kd.R Kd.bool 4 w w0.heap.size (fun _=>True) a.vG s.gone
 tak:∃ n,MapAt w Try.prog 3 a.bk (intF Value.bool s.tak) n
 tos:Kd.R (Kd.int .i64) 3 w w0.heap.size (fun _=>True) a.vT s.tos
 rg:Kd.S k47 47 w w0.heap.size (fun _=>True) vR s.rg
 ne:a.bt≠a.bk
/-- What is plain of it. -/
structure GOk (s:GS):Prop where
 n:s.P.length≤64
 wn:∀ x ∈ s.P,x.f2.length≤64∧okI x.f1∧∀ f ∈ x.f2,okI f
 ord:∀ x ∈ s.ord,0≤x∧x < s.P.length
 ordn:s.ord.length=s.P.length
 gone:s.gone.length=s.P.length
 tos:s.tos.length=s.P.length
 ten:∀ f t,s.ten f=some t→0≤t∧t < s.P.length
section
variable {w0 w w':World} {a:GA} {s:GS} {vR:Value}
theorem blk_below {w w':World} {g:Nat} {o:Obj} (h:w.heap[g]? = some o) (hb:Below w.heap.size w w'):w'.heap[g]? = some o:=(hb.block g (blk_lt h)).trans h
/-- What leaves all blocks as they are keeps the game. -/
theorem GAt.kept (h:GAt w0 w a s vR) (hb:Below w.heap.size w w'):GAt w0 w' a s vR:=by
 refine ⟨h.below.trans (hb.mono h.below.size),blk_below h.blk hb,h.gb,h.tb,h.kb,h.par,h.parc,h.ord,h.ordc,?_,Kd.R_below h.gone hb,?_,Kd.R_below h.tos hb,Kd.S_below h.rg hb,h.ne⟩
 ·
  obtain ⟨n,hn⟩:=h.ten;exact ⟨n,hn.kept hb⟩
 ·
  obtain ⟨n,hn⟩:=h.tak;exact ⟨n,hn.kept hb⟩
theorem GAt.parW (h:GAt w0 w a s vR):k41.C w a.AP s.P.length s.P:=by
 refine ⟨h.par.1,h.par.2.1,fun hn=>?_⟩
 obtain ⟨ad,e,hc⟩:=h.par.2.2 hn
 refine ⟨ad,e,fun j p hj=>?_⟩
 obtain ⟨c,h1,h2,h3⟩:=hc j p hj
 exact ⟨c,h1,k41.K_below h.below h2,fun i u hi=>pw_cell_below h.below (h3 i u hi)⟩
theorem GAt.ordW (h:GAt w0 w a s vR):(Kd.int .i64).C w a.AO s.ord.length s.ord:=Kd.C_below h.ord h.below
theorem GAt.cell (h:GAt w0 w a s vR) (i:Nat):w.cell? ⟨a.g,i,none⟩=(gcells a s vR)[i]?:=blk_cell h.blk i
theorem GAt.c0 (h:GAt w0 w a s vR):w.cell? ⟨a.g,0,none⟩=some (.slice a.AF a.nF a.cF):=(h.cell 0).trans rfl
theorem GAt.c1 (h:GAt w0 w a s vR):w.cell? ⟨a.g,1,none⟩=some (.slice a.AP s.P.length a.cP):=(h.cell 1).trans rfl
theorem GAt.c2 (h:GAt w0 w a s vR):w.cell? ⟨a.g,2,none⟩=some (.slice a.AO s.ord.length a.cO):=(h.cell 2).trans rfl
theorem GAt.c3 (h:GAt w0 w a s vR):w.cell? ⟨a.g,3,none⟩=some (.map (some a.bt)):=(h.cell 3).trans rfl
theorem GAt.c4 (h:GAt w0 w a s vR):w.cell? ⟨a.g,4,none⟩=some a.vG:=(h.cell 4).trans rfl
theorem GAt.c5 (h:GAt w0 w a s vR):w.cell? ⟨a.g,5,none⟩=some (.map (some a.bk)):=(h.cell 5).trans rfl
theorem GAt.c6 (h:GAt w0 w a s vR):w.cell? ⟨a.g,6,none⟩=some a.vT:=(h.cell 6).trans rfl
theorem GAt.c7 (h:GAt w0 w a s vR):w.cell? ⟨a.g,7,none⟩=some vR:=(h.cell 7).trans rfl
theorem GAt.lt (h:GAt w0 w a s vR):a.g < w.heap.size:=blk_lt h.blk
end
/-- What a party that is left wants. -/
def wantZ (own:Int) (tak:Int→Option Bool):List Int→Int
 | []=>own
 | f :: l=>if f=own then own else if (tak f).getD false=true then wantZ own tak l else f
def wantS (s:GS) (p:Int):Int:=wantZ (rd_T41 s.P p).f1 s.tak (rd_T41 s.P p).f2
def holdsS (s:GS) (f:Int):Bool:=match s.ten f with
 | none=>false
 | some t=>!(s.gone.getD t.toNat false)
/-- The first index from k on, or -1. -/
def idxZ (pr:Int→Bool):Nat→List Int→Int
 | _,[]=>-1
 | k,x :: l=>if pr x=true then k else idxZ pr (k + 1) l
def leftS (s:GS) (p:Int):Bool:=!(s.gone.getD p.toNat false)
def firstS (s:GS):Int:=if idxZ (leftS s) 0 s.ord < 0 then -1 else rd s.ord (idxZ (leftS s) 0 s.ord)
def ownerS (s:GS) (f:Int):Int:=if holdsS s f=true then (s.ten f).getD 0 else firstS s
def RetI (w:World) (x:Int) (e:Ending) (w':World):Prop:=e = .returned (.int .i64 x)∧Below w.heap.size w w'
def RetB (w:World) (x:Bool) (e:Ending) (w':World):Prop:=e = .returned (.bool x)∧Below w.heap.size w w'
end Go.Proofs.Ytjgnkhfgmpaljaa.P
namespace Go.Proofs.Ytjgnkhfgmpaljaa.P
open Go.RowKit Go.Proofs.YtjgnkhfgmpaljaaW.PrintWords Go.Proofs.YtjgnkhfgmpaljaaW.PrintLast Go.Proofs.YtjgnkhfgmpaljaaW.PrintMore Go.Proofs.Ytjgnkhfgmpaljaa.M
open Go.Maps (Keyed int_keyed keyOf_int_mk)
set_option linter.unusedVariables false
set_option linter.unusedSimpArgs false
theorem wantZ_step {own:Int} {tak:Int→Option Bool} {l:List Int} {k:Nat} (h:k < l.length):wantZ own tak (l.drop k)=if rd l (k:Int)=own then own else if (tak (rd l (k:Int))).getD false=true then wantZ own tak (l.drop (k + 1)) else rd l (k:Int):=by
 rw [List.drop_eq_getElem_cons h,rd_get h];rfl
theorem wantZ_end {own:Int} {tak:Int→Option Bool} {l:List Int}:wantZ own tak (l.drop l.length)=own:=by rw [List.drop_length];rfl
theorem rd_mem {l:List Int} {i:Nat} (h:i < l.length):rd l (i:Int) ∈ l:=by rw [rd_get h];exact List.getElem_mem h
set_option maxHeartbeats 4000000 in
set_option maxRecDepth 100000 in
theorem want_calls {w0 w:World} {a:GA} {s:GS} {vR:Value} (h:GAt w0 w a s vR) (ok:GOk s) (p:Nat) (hp:p < s.P.length) :
  Calls Try.prog 72 #[.pointer (some ⟨a.g,0,none⟩),.int .i64 p] w (RetI w (wantS s p)):=by
 have H:=zF h
 have hn:=ok.n
 have hw:=ok.wn _ (rd41_mem hp)
 have c1:=h.c1
 have c5:=h.c5
 obtain ⟨ad,A2,c2,e,x0,x1,x2,l2,g2⟩:=at_T41 h.parW (p:Int) (by omega) (by omega)
 have HE:Aside0 (a.AP=some ad):=⟨e⟩
 rw [HE.out] at c1
 simp only [Int.toNat_natCast] at x0 x1 x2
 have HW:Aside0 (wantS s p=wantZ (rd_T41 s.P (p:Int)).f1 s.tak (rd_T41 s.P (p:Int)).f2):=⟨rfl⟩
 generalize rd_T41 s.P (p:Int)=x at *
 have HX:=zF hw
 have HG2:=zF g2
 have hl:=hw.1
 have hu41:=Try.underlying41
 obtain ⟨nk,hk⟩:=h.tak
 have HK:=zF hk
 have hp':(p:Int) < (s.P.length:Int):=by omega
 clear h ok g2 hw e hk
 go_enter Try.func72,Try.ntmps72
 go_wp2
 clear c1 x0 x1 x2
 have HB0:Aside0 (Below w.heap.size w (w.alloc (.cells #[.int .i64 x.f0,.int .i64 x.f1,.slice A2 x.f2.length c2] 41))):=⟨below_alloc (Below.refl _ _) _⟩
 have HX0:=zF (blk_new w (.cells #[.int .i64 x.f0,.int .i64 x.f1,.slice A2 x.f2.length c2] 41))
 go_loopg [4,7,19] x.f2.length (fun gk _ _ v19 w'=>∃ i:Nat,v19 = .int .i64 i∧Aside0 (i≤x.f2.length∧gk=x.f2.length - i)∧Aside0 (wantS s p=wantZ x.f1 s.tak (x.f2.drop i))∧Aside0 (Below w.heap.size w w') ∧
  Aside0 (w'.heap[w.heap.size]? = some (.cells #[.int .i64 x.f0,.int .i64 x.f1,.slice A2 x.f2.length c2] 41 (0,0))))
 case atStart=>exact ⟨0,rfl,⟨Nat.zero_le _,rfl⟩,⟨by rw [HW.out,List.drop_zero]⟩,HB0,HX0⟩
 case round =>
  obtain ⟨i,rfl,HI,HR,HB,HXB⟩:=hrel
  have hi:=HI.out.1
  clear HW HB0 HX0
  have z1:wr.cell? ⟨w.heap.size,1,none⟩=some (.int .i64 x.f1):=(blk_cell HXB.out 1).trans rfl
  replace c5:=pw_cell_below HB.out c5
  by_cases hlt:i < x.f2.length
  ·
   obtain ⟨ad2,c,e2,_,hK2,hc2⟩:=Kd.C_get HG2.out (0:Int) (i:Int) (by omega) (by omega)
   have y:w.cell? (ad2.add i)=some (.int .i64 (rd x.f2 (i:Int))):=by
    have:=hc2 0 (.int .i64 (rd x.f2 (i:Int))) (by rw [hK2];rfl)
    rwa [Int.toNat_natCast,show (Kd.int .i64).sz=1 from rfl,Nat.mul_one,Nat.add_zero] at this
   cases e2
   have HS:=zF (wantZ_step (own:=x.f1) (tak:=s.tak) hlt)
   have hkey:=okI_key (HX.out.2.2 _ (rd_mem hlt))
   replace y:=pw_cell_below HB.out y
   clear hK2 hc2
   generalize rd x.f2 (i:Int)=f at *
   by_cases hf:f=x.f1
   ·
    have hfb:(f == x.f1)=true:=by simpa using hf
    have HE2:Aside0 (wantS s p=x.f1):=⟨by rw [HR.out,HS.out,if_pos hf]⟩
    clear hf
    go_wp2
    go_ret
    exact ⟨by rw [HE2.out];rfl,HB.out⟩
   ·
    have hfb:(f == x.f1)=false:=by simpa using hf
    cases ht:s.tak f with
    | none =>
     have HE2:Aside0 (wantS s p=f):=⟨by rw [HR.out,HS.out,if_neg hf,ht];rfl⟩
     have HT:Aside0 ((intF Value.bool s.tak) (.int .i64 f)=none):=⟨by rw [intF_at,ht];rfl⟩
     clear hf ht
     go_wp2_with (at_lookup;refine wpList_look rfl (.tmp 30) (.tmp 31) 37 false rfl 3 4 keyInt Try.underlying37 (.bool false) zeroB a.bk nk (intF Value.bool s.tak) rfl (HK.out.kept HB.out) (.int .i64 f) (.int .i64 f) rfl hkey none HT.out ?_;simp only [looked_false,Option.getD_none])
     go_ret
     exact ⟨by rw [HE2.out];rfl,HB.out⟩
    | some b =>
     have HT:Aside0 ((intF Value.bool s.tak) (.int .i64 f)=some (.bool b)):=⟨by rw [intF_at,ht];rfl⟩
     cases b with
     | false =>
      have HE2:Aside0 (wantS s p=f):=⟨by rw [HR.out,HS.out,if_neg hf,ht];rfl⟩
      clear hf ht
      go_wp2_with (at_lookup;refine wpList_look rfl (.tmp 30) (.tmp 31) 37 false rfl 3 4 keyInt Try.underlying37 (.bool false) zeroB a.bk nk (intF Value.bool s.tak) rfl (HK.out.kept HB.out) (.int .i64 f) (.int .i64 f) rfl hkey (some (.bool false)) HT.out ?_;simp only [looked_false,Option.getD_some])
      go_ret
      exact ⟨by rw [HE2.out];rfl,HB.out⟩
     | true =>
      have HE2:Aside0 (wantS s p=wantZ x.f1 s.tak (x.f2.drop (i + 1))):=⟨by rw [HR.out,HS.out,if_neg hf,ht];rfl⟩
      clear hf ht
      go_wp2_with (at_lookup;refine wpList_look rfl (.tmp 30) (.tmp 31) 37 false rfl 3 4 keyInt Try.underlying37 (.bool false) zeroB a.bk nk (intF Value.bool s.tak) rfl (HK.out.kept HB.out) (.int .i64 f) (.int .i64 f) rfl hkey (some (.bool true)) HT.out ?_;simp only [looked_false,Option.getD_some])
      go_roundg (x.f2.length - (i + 1))
      case measure=>have:=HI.out;omega
      case rel=>exact ⟨i + 1,by go_num,⟨by omega,rfl⟩,HE2,HB,HXB⟩
  ·
   obtain rfl:i=x.f2.length:=by omega
   have HE2:Aside0 (wantS s p=x.f1):=⟨by rw [HR.out,wantZ_end]⟩
   go_wp2
   go_ret
   exact ⟨by rw [HE2.out];rfl,HB.out⟩
end Go.Proofs.Ytjgnkhfgmpaljaa.P
namespace Go.Proofs.Ytjgnkhfgmpaljaa.P
open Go.RowKit Go.Proofs.YtjgnkhfgmpaljaaW.PrintWords Go.Proofs.YtjgnkhfgmpaljaaW.PrintLast Go.Proofs.YtjgnkhfgmpaljaaW.PrintMore Go.Proofs.Ytjgnkhfgmpaljaa.M
open Go.Maps (Keyed int_keyed keyOf_int_mk)
set_option linter.unusedVariables false
set_option linter.unusedSimpArgs false
/-- A cell of a row of bools, or of whole numbers. -/
theorem boolC_at {w:World} {A:Option Addr} {n:Nat} {l:List Bool} (h:Kd.bool.C w A n l) {i:Nat} (hi:i < n):∃ ad,A=some ad∧w.cell? (ad.add i)=some (.bool (l.getD i false)):=by
 obtain ⟨ad,c,e,_,hK,hc⟩:=Kd.C_get h false (i:Int) (by omega) (by omega)
 refine ⟨ad,e,?_⟩
 have:=hc 0 (.bool (l.getD i false)) (by rw [hK];rfl)
 rwa [Int.toNat_natCast,show Kd.bool.sz=1 from rfl,Nat.mul_one,Nat.add_zero] at this
theorem intC_at {w:World} {A:Option Addr} {n:Nat} {l:List Int} (h:(Kd.int .i64).C w A n l) {i:Nat} (hi:i < n):∃ ad,A=some ad∧w.cell? (ad.add i)=some (.int .i64 (rd l (i:Int))):=by
 obtain ⟨ad,c,e,_,hK,hc⟩:=Kd.C_get h (0:Int) (i:Int) (by omega) (by omega)
 refine ⟨ad,e,?_⟩
 have:=hc 0 (.int .i64 (rd l (i:Int))) (by rw [hK];rfl)
 rwa [Int.toNat_natCast,show (Kd.int .i64).sz=1 from rfl,Nat.mul_one,Nat.add_zero] at this
theorem GAt.goneC {w0 w:World} {a:GA} {s:GS} {vR:Value} (h:GAt w0 w a s vR):∃ A c,a.vG = .slice A s.gone.length c∧s.gone.length≤c∧Kd.bool.C w A s.gone.length s.gone:=Kd.R_reads h.gone
set_option maxHeartbeats 4000000 in
set_option maxRecDepth 100000 in
theorem holds_calls {w0 w:World} {a:GA} {s:GS} {vR:Value} (h:GAt w0 w a s vR) (ok:GOk s) (f:Int) (hf:okI f) :
  Calls Try.prog 86 #[.pointer (some ⟨a.g,0,none⟩),.int .i64 f] w (fun e w'=>e = .returned (.bool (holdsS s f))∧w=w'):=by
 have hn:=ok.n
 have hkey:=okI_key hf
 obtain ⟨nk,hk⟩:=h.ten
 have HK:=zF hk
 have c3:=h.c3
 have c4:=h.c4
 cases ht:s.ten f with
 | none =>
  have HT:Aside0 ((intF (Value.int .i64) s.ten) (.int .i64 f)=none):=⟨by rw [intF_at,ht];rfl⟩
  have HE:Aside0 (holdsS s f=false):=⟨by unfold holdsS;rw [ht]⟩
  clear h ok hk ht hf
  go_enter Try.func86,Try.ntmps86
  go_wp2_with (at_lookup;refine wpList_look rfl (.tmp 11) (.tmp 12) 75 true rfl 3 3 keyInt Try.underlying75 (.int .i64 0) zeroI a.bt nk (intF (Value.int .i64) s.ten) rfl HK.out (.int .i64 f) (.int .i64 f) rfl hkey none HT.out ?_;simp only [looked_true,Option.getD_none,Option.isSome_none])
  go_ret
  exact ⟨by rw [HE.out];rfl,rfl⟩
 | some t =>
  have HT:Aside0 ((intF (Value.int .i64) s.ten) (.int .i64 f)=some (.int .i64 t)):=⟨by rw [intF_at,ht];rfl⟩
  obtain ⟨t0,t1⟩:=ok.ten f t ht
  obtain ⟨j,rfl⟩:∃ j:Nat,t=j:=⟨t.toNat,by omega⟩
  have hgl:=ok.gone
  obtain ⟨AG,cG,eG,lG,rG⟩:=h.goneC
  obtain ⟨ad,e,y⟩:=boolC_at rG (i:=j) (by omega)
  subst e
  have HE:Aside0 (holdsS s f = !(s.gone.getD j false)):=⟨by unfold holdsS;rw [ht];rfl⟩
  rw [eG,hgl] at c4
  rw [hgl] at lG
  have hj:(j:Int) < (s.P.length:Int):=t1
  generalize s.gone.getD j false=b at *
  clear h ok hk ht hf rG eG hgl
  go_enter Try.func86,Try.ntmps86
  go_wp2_with (at_lookup;refine wpList_look rfl (.tmp 11) (.tmp 12) 75 true rfl 3 3 keyInt Try.underlying75 (.int .i64 0) zeroI a.bt nk (intF (Value.int .i64) s.ten) rfl HK.out (.int .i64 f) (.int .i64 f) rfl hkey (some (.int .i64 (j:Int))) HT.out ?_;simp only [looked_true,Option.getD_some,Option.isSome_some])
  go_ret
  exact ⟨by rw [HE.out];rfl,rfl⟩
set_option maxHeartbeats 4000000 in
set_option maxRecDepth 100000 in
/-- The closure that asks whether a party is left. -/
theorem first1_calls {w0 w:World} {a:GA} {s:GS} {vR:Value} (h:GAt w0 w a s vR) (ok:GOk s) (b:Nat) (hb:w.cell? ⟨b,0,none⟩=some (.pointer (some ⟨a.g,0,none⟩))) (p:Nat) (hp:p < s.P.length) :
  Calls Try.prog 74 #[.int .i64 p,.pointer (some ⟨b,0,none⟩)] w (fun e w'=>e = .returned (.bool (leftS s p))∧w=w'):=by
 have hn:=ok.n
 have c4:=h.c4
 have hgl:=ok.gone
 obtain ⟨AG,cG,eG,lG,rG⟩:=h.goneC
 obtain ⟨ad,e,y⟩:=boolC_at rG (i:=p) (by omega)
 subst e
 have HE:Aside0 (leftS s p = !(s.gone.getD p false)):=⟨by unfold leftS;rw [Int.toNat_natCast]⟩
 rw [eG,hgl] at c4
 rw [hgl] at lG
 generalize s.gone.getD p false=c at *
 have hj:(p:Int) < (s.P.length:Int):=by omega
 clear h ok rG eG hgl
 go_enter Try.func74,Try.ntmps74
 go_wp2
 go_ret
 exact ⟨by rw [HE.out];rfl,rfl⟩
theorem idxZ_step {pr:Int→Bool} {l:List Int} {k:Nat} (h:k < l.length):idxZ pr k (l.drop k)=if pr (rd l (k:Int))=true then (k:Int) else idxZ pr (k + 1) (l.drop (k + 1)):=by
 rw [List.drop_eq_getElem_cons h,rd_get h];rfl
theorem idxZ_end {pr:Int→Bool} {l:List Int}:idxZ pr l.length (l.drop l.length) = -1:=by rw [List.drop_length];rfl
set_option maxHeartbeats 4000000 in
set_option maxRecDepth 100000 in
/-- slices.IndexFunc over that closure. -/
theorem idxFirst_calls {w0 w:World} {a:GA} {s:GS} {vR:Value} (h:GAt w0 w a s vR) (ok:GOk s) (b:Nat) (hb:w.cell? ⟨b,0,none⟩=some (.pointer (some ⟨a.g,0,none⟩))) :
  Calls Try.prog 73 #[.slice a.AO s.ord.length a.cO,.func (.func 74) #[] #[.pointer (some ⟨b,0,none⟩)]] w (fun e w'=>e = .returned (.int .i64 (idxZ (leftS s) 0 s.ord))∧w=w'):=by
 have hn:=ok.n
 have hon:=ok.ordn
 have HC:=zF (fun (p:Nat) (hp:p < s.P.length)=>first1_calls h ok b hb p hp)
 have HO:=zF ok.ord
 have HCO:=zF h.ordW
 have hc:=h.ordc
 have hl:s.ord.length≤64:=by omega
 clear h ok hb hon
 go_enter Try.func73,Try.ntmps73
 go_wp2
 go_loop [5,8] (fun _ v8=>∃ i:Nat,v8 = .int .i64 i∧i≤s.ord.length∧Aside0 (idxZ (leftS s) 0 s.ord=idxZ (leftS s) i (s.ord.drop i))) (fun _ v8=>s.ord.length - (intOf v8).toNat)
 case atStart=>exact ⟨0,rfl,Nat.zero_le _,⟨by rw [List.drop_zero]⟩⟩
 case round =>
  obtain ⟨i,rfl,hi,HR⟩:=hrel
  by_cases hlt:i < s.ord.length
  ·
   obtain ⟨ad,e,y⟩:=intC_at HCO.out (i:=i) hlt
   have HA:Aside0 (a.AO=some ad):=⟨e⟩
   have HS:=zF (idxZ_step (pr:=leftS s) hlt)
   obtain ⟨q0,q1⟩:=HO.out _ (rd_mem hlt)
   obtain ⟨j,hj⟩:∃ j:Nat,rd s.ord (i:Int)=j:=⟨(rd s.ord (i:Int)).toNat,by omega⟩
   have HJ:=zF (HC.out j (by omega))
   rw [hj] at y HS
   have hjl:(j:Int) < (s.P.length:Int):=by omega
   have hlt':(i:Int) < (s.ord.length:Int):=by omega
   clear hj q0 q1
   generalize a.AO=AO at *
   cases e
   cases hls:leftS s j with
   | true =>
    have HE:Aside0 (idxZ (leftS s) 0 s.ord=i):=⟨by rw [HR.out,HS.out,if_pos hls]⟩
    rw [hls] at HJ
    clear hls
    go_wp2_with (go_at_call 74;(with_reducible refine HJ.out.mono ?_);rintro e w' ⟨rfl,rfl⟩)
    go_ret
    exact ⟨by rw [HE.out];rfl,rfl⟩
   | false =>
    have HE:Aside0 (idxZ (leftS s) 0 s.ord=idxZ (leftS s) (i + 1) (s.ord.drop (i + 1))):=⟨by rw [HR.out,HS.out,if_neg (by rw [hls];decide)]⟩
    rw [hls] at HJ
    clear hls
    go_wp2_with (go_at_call 74;(with_reducible refine HJ.out.mono ?_);rintro e w' ⟨rfl,rfl⟩)
    go_round
    case rel=>exact ⟨i + 1,by go_num,by omega,HE⟩
    case measure=>simp [intOf];omega
  ·
   obtain rfl:i=s.ord.length:=by omega
   have HE:Aside0 (idxZ (leftS s) 0 s.ord = -1):=⟨by rw [HR.out,idxZ_end]⟩
   go_wp2
   go_ret
   exact ⟨by rw [HE.out];rfl,rfl⟩
theorem idxZ_spec {pr:Int→Bool}:∀ (l:List Int) (k:Nat),(idxZ pr k l = -1∧∀ x ∈ l,pr x=false) ∨ ∃ i,i < l.length∧idxZ pr k l=((k + i:Nat):Int)∧pr (rd l (i:Int))=true∧∀ j,j < i→pr (rd l (j:Int))=false
 | [],k=>.inl ⟨rfl,fun x h=>by cases h⟩
 | x :: l,k=>by
  unfold idxZ
  by_cases hx:pr x=true
  ·
   rw [if_pos hx]
   exact .inr ⟨0,by simp,rfl,hx,fun j h=>by omega⟩
  ·
   rw [if_neg hx]
   rcases idxZ_spec l (k + 1) with ⟨h1,h2⟩|⟨i,h1,h2,h3,h4⟩
   ·
    refine .inl ⟨h1,fun y hy=>?_⟩
    rcases List.mem_cons.1 hy with e|hy
    ·
     rw [e];simpa using hx
    ·
     exact h2 y hy
   ·
    refine .inr ⟨i + 1,by simp;omega,by rw [h2];congr 1;omega,?_,fun j hj=>?_⟩
    ·
     rw [rd_get (by simp;omega)];rw [rd_get h1] at h3;simpa using h3
    ·
     cases j with
     | zero=>rw [rd_get (by simp)];simpa using hx
     | succ j =>
      have:=h4 j (by omega)
      rw [rd_get (by omega)] at this
      rw [rd_get (by simp;omega)];simpa using this
set_option maxHeartbeats 4000000 in
set_option maxRecDepth 100000 in
theorem first_calls {w0 w:World} {a:GA} {s:GS} {vR:Value} (h:GAt w0 w a s vR) (ok:GOk s) :
  Calls Try.prog 45 #[.pointer (some ⟨a.g,0,none⟩)] w (RetI w (firstS s)):=by
 have hn:=ok.n
 have hon:=ok.ordn
 have hc:=h.ordc
 have hb0:Below w.heap.size w (w.alloc (.cells #[.pointer (some ⟨a.g,0,none⟩)] 74)):=below_alloc (Below.refl _ _) _
 have h1:=h.kept hb0
 have c2:=h1.c2
 have hbx:(w.alloc (.cells #[.pointer (some ⟨a.g,0,none⟩)] 74)).cell? ⟨w.heap.size,0,none⟩=some (.pointer (some ⟨a.g,0,none⟩)):=(blk_cell (blk_new w _) 0).trans rfl
 have HI:=zF (idxFirst_calls h1 ok w.heap.size hbx)
 rcases idxZ_spec (pr:=leftS s) s.ord 0 with ⟨e1,_⟩|⟨i,hi,e1,_,_⟩
 ·
  have HE:Aside0 (firstS s = -1):=⟨by unfold firstS;rw [if_pos (by omega)]⟩
  rw [e1] at HI
  have HB:=zF hb0
  clear h ok h1 e1 hb0 hon
  go_enter Try.func45,Try.ntmps45
  go_wp2_with (go_at_call 73;(with_reducible refine HI.out.mono ?_);rintro e w' ⟨rfl,rfl⟩)
  go_ret
  exact ⟨by rw [HE.out];rfl,HB.out⟩
 ·
  rw [Nat.zero_add] at e1
  have HE:Aside0 (firstS s=rd s.ord (i:Int)):=⟨by unfold firstS;rw [if_neg (by omega),e1]⟩
  rw [e1] at HI
  obtain ⟨ad,e,y⟩:=intC_at h1.ordW (i:=i) hi
  have HB:=zF hb0
  have hlt:(i:Int) < (s.ord.length:Int):=by omega
  have hl:s.ord.length≤64:=by omega
  clear h ok h1 e1 hb0 hon
  generalize a.AO=AO at *
  cases e
  go_enter Try.func45,Try.ntmps45
  go_wp2_with (go_at_call 73;(with_reducible refine HI.out.mono ?_);rintro e w' ⟨rfl,rfl⟩)
  go_ret
  exact ⟨by rw [HE.out];rfl,HB.out⟩
set_option maxHeartbeats 4000000 in
set_option maxRecDepth 100000 in
theorem owner_calls {w0 w:World} {a:GA} {s:GS} {vR:Value} (h:GAt w0 w a s vR) (ok:GOk s) (f:Int) (hf:okI f) :
  Calls Try.prog 84 #[.pointer (some ⟨a.g,0,none⟩),.int .i64 f] w (RetI w (ownerS s f)):=by
 have hkey:=okI_key hf
 obtain ⟨nk,hk⟩:=h.ten
 have HK:=zF hk
 have c3:=h.c3
 have HH:=zF (holds_calls h ok f hf)
 have HF:=zF (first_calls h ok)
 cases hh:holdsS s f with
 | true =>
  rw [hh] at HH
  cases ht:s.ten f with
  | none=>unfold holdsS at hh;rw [ht] at hh;cases hh
  | some t =>
   have HT:Aside0 ((intF (Value.int .i64) s.ten) (.int .i64 f)=some (.int .i64 t)):=⟨by rw [intF_at,ht];rfl⟩
   have HE:Aside0 (ownerS s f=t):=⟨by unfold ownerS;rw [if_pos hh,ht];rfl⟩
   clear h ok hk hh ht hf
   go_enter Try.func84,Try.ntmps84
   go_wp2_with (first
    | (go_at_call 86;(with_reducible refine HH.out.mono ?_);rintro e w' ⟨rfl,rfl⟩)
    | (at_lookup;refine wpList_look rfl (.tmp 11) (.tmp 12) 75 false rfl 3 3 keyInt Try.underlying75 (.int .i64 0) zeroI a.bt nk (intF (Value.int .i64) s.ten) rfl HK.out (.int .i64 f) (.int .i64 f) rfl hkey (some (.int .i64 t)) HT.out ?_;simp only [looked_false,Option.getD_some]))
   go_ret
   exact ⟨by rw [HE.out];rfl,Below.refl _ _⟩
 | false =>
  rw [hh] at HH
  have HE:Aside0 (ownerS s f=firstS s):=⟨by unfold ownerS;rw [if_neg (by rw [hh];decide)]⟩
  clear h ok hk hh hf
  go_enter Try.func84,Try.ntmps84
  go_wp2_with (first
   | (go_at_call 86;(with_reducible refine HH.out.mono ?_);rintro e w' ⟨rfl,rfl⟩)
   | (go_at_call 45;(with_reducible refine HF.out.mono ?_);rintro e w' ⟨rfl,hb⟩;have HB:=zF hb;clear hb))
  go_ret
  exact ⟨by rw [HE.out];rfl,HB.out⟩
end Go.Proofs.Ytjgnkhfgmpaljaa.P
namespace Go.Proofs.Ytjgnkhfgmpaljaa.P
open Go.RowKit Go.Proofs.YtjgnkhfgmpaljaaW.PrintWords Go.Proofs.YtjgnkhfgmpaljaaW.PrintLast Go.Proofs.YtjgnkhfgmpaljaaW.PrintMore Go.Proofs.Ytjgnkhfgmpaljaa.M
set_option linter.unusedVariables false
set_option linter.unusedSimpArgs false
set_option maxHeartbeats 4000000 in
set_option maxRecDepth 100000 in
theorem index_calls (A0:Option Addr) (c0:Nat) (l:List Int) (x:Int) (w:World) (hr:(Kd.int .i64).C w A0 l.length l) (hl:l.length≤1000) :
  Calls Try.prog 93 #[.slice A0 l.length c0,.int .i64 x] w (fun e w'=>e = .returned (.int .i64 (idxZ (fun y=>x == y) 0 l))∧w=w'):=by
 have HCO:=zF hr
 clear hr
 go_enter Try.func93,Try.ntmps93
 go_wp2
 go_loop [5,8] (fun _ v8=>∃ i:Nat,v8 = .int .i64 i∧i≤l.length∧Aside0 (idxZ (fun y=>x == y) 0 l=idxZ (fun y=>x == y) i (l.drop i))) (fun _ v8=>l.length - (intOf v8).toNat)
 case atStart=>exact ⟨0,rfl,Nat.zero_le _,⟨by rw [List.drop_zero]⟩⟩
 case round =>
  obtain ⟨i,rfl,hi,HR⟩:=hrel
  by_cases hlt:i < l.length
  ·
   obtain ⟨ad,e,y⟩:=intC_at HCO.out (i:=i) hlt
   have HS:=zF (idxZ_step (pr:=fun y=>x == y) hlt)
   have hlt':(i:Int) < (l.length:Int):=by omega
   generalize rd l (i:Int)=z at *
   cases e
   cases hls:(x == z) with
   | true =>
    have HE:Aside0 (idxZ (fun y=>x == y) 0 l=i):=⟨by rw [HR.out,HS.out,if_pos hls]⟩
    go_wp2
    go_ret
    exact ⟨by rw [HE.out];rfl,rfl⟩
   | false =>
    have HE:Aside0 (idxZ (fun y=>x == y) 0 l=idxZ (fun y=>x == y) (i + 1) (l.drop (i + 1))):=⟨by rw [HR.out,HS.out,if_neg (by rw [hls];decide)]⟩
    go_wp2
    go_round
    case rel=>exact ⟨i + 1,by go_num,by omega,HE⟩
    case measure=>simp [intOf];omega
  ·
   obtain rfl:i=l.length:=by omega
   have HE:Aside0 (idxZ (fun y=>x == y) 0 l = -1):=⟨by rw [HR.out,idxZ_end]⟩
   go_wp2
   go_ret
   exact ⟨by rw [HE.out];rfl,rfl⟩
def hasB (l:List Int) (x:Int):Bool:=l.any fun y=>x == y
theorem hasB_iff {l:List Int} {x:Int}:hasB l x=true ↔ x ∈ l:=by unfold hasB;simp [List.any_eq_true]
set_option maxHeartbeats 4000000 in
set_option maxRecDepth 100000 in
theorem contains_calls (A0:Option Addr) (c0:Nat) (l:List Int) (x:Int) (w:World) (hr:(Kd.int .i64).C w A0 l.length l) (hl:l.length≤1000) :
  Calls Try.prog 85 #[.slice A0 l.length c0,.int .i64 x] w (fun e w'=>e = .returned (.bool (hasB l x))∧w=w'):=by
 have HI:=zF (index_calls A0 c0 l x w hr hl)
 clear hr
 rcases idxZ_spec (pr:=fun y=>x == y) l 0 with ⟨e1,h2⟩|⟨i,hi,e1,h2,_⟩
 ·
  have HE:Aside0 (hasB l x=false):=⟨by unfold hasB;rw [List.any_eq_false];intro y hy;rw [h2 y hy];decide⟩
  rw [e1] at HI
  clear h2 e1
  go_enter Try.func85,Try.ntmps85
  go_wp2_with (go_at_call 93;(with_reducible refine HI.out.mono ?_);rintro e w' ⟨rfl,rfl⟩)
  go_ret
  exact ⟨by rw [HE.out];rfl,rfl⟩
 ·
  have HE:Aside0 (hasB l x=true):=⟨by unfold hasB;rw [List.any_eq_true];exact ⟨_,rd_mem hi,h2⟩⟩
  rw [e1,Nat.zero_add] at HI
  clear h2 e1
  go_enter Try.func85,Try.ntmps85
  go_wp2_with (go_at_call 93;(with_reducible refine HI.out.mono ?_);rintro e w' ⟨rfl,rfl⟩)
  go_ret
  exact ⟨by rw [HE.out];rfl,rfl⟩
end Go.Proofs.Ytjgnkhfgmpaljaa.P
