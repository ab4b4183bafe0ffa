/- Lemmas, readings of functions as plain Lean functions and contracts of functions of the program, for the claimed theorem; each one's conditions stand in its statement. -/
import Derived.Test.YtjgnkhfgmpaljaaQTD17
import Derived.Test.YtjgnkhfgmpaljaaQTD15
import Derived.Test.YtjgnkhfgmpaljaaQTD19
namespace Go.Proofs.Ytjgnkhfgmpaljaa.P
open Go.RowKit Go.Proofs.YtjgnkhfgmpaljaaW.PrintWords Go.Proofs.YtjgnkhfgmpaljaaW.PrintLast Go.Proofs.YtjgnkhfgmpaljaaW.PrintMore Go.Proofs.Ytjgnkhfgmpaljaa.M
set_option linter.unusedVariables false
set_option linter.unusedSimpArgs false
def tenK (P:List S41):Nat→(Int→Option Int)
 | 0=>fun _=>none
 | k + 1=>if ((rd_T41 P (k:Int)).f1 != 0)=true then (fun f=>if f=(rd_T41 P (k:Int)).f1 then some (k:Int) else tenK P k f) else tenK P k
def startG (P:List S41) (ord:List Int) (k:Nat):GS:=⟨P,ord,tenK P k,List.replicate P.length false,fun _=>none,List.replicate P.length 0,[]⟩
def runG:Nat→GS→GS
 | 0,s=>s
 | k + 1,s=>if firstS s < 0 then s else runG k (stepG s)
/-- Each step of the game finds a cycle, and it comes to an end. -/
def RunOk:Nat→GS→Prop
 | 0,s=>GOk s∧firstS s < 0
 | k + 1,s=>GOk s∧(¬ firstS s < 0→(∃ c,c≤100∧RgOk c s.rg)∧(0 < (cycleS s).length∧(cycleS s).length≤64)∧(∀ x ∈ cycleS s,0≤x∧x < s.P.length)∧RunOk k (stepG s))
def finalG (P:List S41) (ord:List Int):GS:=runG (P.length + 1) (leaveS (startG P ord P.length))
theorem runG_P:∀ (k:Nat) (s:GS),(runG k s).P=s.P
 | 0,s=>rfl
 | k + 1,s=>by
  unfold runG
  split
  ·
   rfl
  ·
   rw [runG_P k (stepG s)];rfl
theorem finalG_P (P:List S41) (ord:List Int):(finalG P ord).P=P:=runG_P _ _
def outM (P:List S41) (tos:List Int):Nat→List S39
 | 0=>List.replicate P.length ⟨0,0,0⟩
 | k + 1=>(outM P tos k).set k ⟨(rd_T41 P (k:Int)).f0,(rd_T41 P (k:Int)).f1,rd tos (k:Int)⟩
theorem outM_len (P:List S41) (tos:List Int):∀ k,(outM P tos k).length=P.length
 | 0=>by simp [outM]
 | k + 1=>by unfold outM;rw [List.length_set,outM_len P tos k]
theorem below_of_grown {W W':World} (hg:W.grownBy W' none):Below W.heap.size W W':=(Below.refl _ _).grown hg (Nat.le_refl _) (fun k e=>by cases e)
theorem infoB:(Try.prog.info? 4).map (fun i=>(i.zero,i.size,i.bytes))=some (some (.bool false),1,1):=by kernel_rfl
section
variable {W:World} {ops:Array Oper} {o:Oper} {a:Act} {Q:Exit→Act→World→Prop} {Kc:Act→World→Prop}
theorem step_mapM (hw:Region.wanted o (yielded ops a.tmps)=true) (t e:TypeId) (hop:o.op = .makeMap t none) (ht:Try.prog.underlying t=some (.map 3 e))
  (h:∀ w1,MapAt w1 Try.prog 3 W.heap.size (fun _=>none) 0→Below W.heap.size W w1→Kc (a.put o.dst (.map (some W.heap.size))) w1) :
  if Region.wanted o (yielded ops a.tmps)=true then Oper.wp Try.prog o a W Kc Q else Kc (a.put o.dst undef) W:=by
 rw [if_pos hw]
 unfold Oper.wp
 have hrm:(Instr.makeMap t none).run Try.prog W = .ok (.map (some W.heap.size)) (W.alloc (.map #[] 0)):=run_makeMap _ _
 simp [execOp,hop,hrm,Result.andThen]
 exact h _ (MapAt.made W Try.prog 3) (below_alloc (Below.refl _ _) _)
theorem step_mkB (hw:Region.wanted o (yielded ops a.tmps)=true) {N:Tmp} (hd:o.dst=some N) (x y:Operand) (ho:o.op = .makeSlice 76 x y) (n:Nat) (hx:a.eval x = .int .i64 n) (hy:a.eval y = .int .i64 n) (hn:n≤64) (base:Nat) (hb:base≤W.heap.size)
  (h:∀ A c w1,Kd.R Kd.bool 4 w1 base (fun _=>True) (.slice A n c) (List.replicate n false)→Below W.heap.size W w1→Kc (a.put o.dst (.slice A n c)) w1) :
  if Region.wanted o (yielded ops a.tmps)=true then Oper.wp Try.prog o a W Kc Q else Kc (a.put o.dst undef) W:=by
 refine Kd.R_make_step Kd.bool (w0:=W) base 4 hw hd 76 x y ho (n:Int) hx hy Try.underlying76 (.bool false) 1 infoB rfl (by decide) (by decide) false (okp:=fun _=>True) (ok:=fun _=>True) ?_ (fun _ _=>trivial) trivial (by omega) (by omega) (Below.refl _ _) hb ?_
 ·
  rfl
 ·
  intro v1 w1 hR _ hg _
  rw [Int.toNat_natCast] at hR
  obtain ⟨A,c,e,_⟩:=Kd.R_reads hR
  rw [List.length_replicate] at e
  subst e
  exact h A c w1 hR (below_of_grown hg)
theorem step_mkI (hw:Region.wanted o (yielded ops a.tmps)=true) {N:Tmp} (hd:o.dst=some N) (x y:Operand) (ho:o.op = .makeSlice 26 x y) (n:Nat) (hx:a.eval x = .int .i64 n) (hy:a.eval y = .int .i64 n) (hn:n≤64) (base:Nat) (hb:base≤W.heap.size)
  (h:∀ A c w1,Kd.R (Kd.int .i64) 3 w1 base (fun _=>True) (.slice A n c) (List.replicate n 0)→Below W.heap.size W w1→Kc (a.put o.dst (.slice A n c)) w1) :
  if Region.wanted o (yielded ops a.tmps)=true then Oper.wp Try.prog o a W Kc Q else Kc (a.put o.dst undef) W:=by
 refine Kd.R_make_step (Kd.int .i64) (w0:=W) base 3 hw hd 26 x y ho (n:Int) hx hy Try.underlying26 (.int .i64 0) 8 info3 rfl (by decide) (by decide) 0 (okp:=fun _=>True) (ok:=fun _=>True) ?_ (fun _ _=>trivial) trivial (by omega) (by omega) (Below.refl _ _) hb ?_
 ·
  rfl
 ·
  intro v1 w1 hR _ hg _
  rw [Int.toNat_natCast] at hR
  obtain ⟨A,c,e,_⟩:=Kd.R_reads hR
  rw [List.length_replicate] at e
  subst e
  exact h A c w1 hR (below_of_grown hg)
end
theorem wpList_mkM {W:World} {ops:Array Oper} {rest:List Oper} {o:Oper} {a:Act} {Q:Exit→Act→World→Prop} (hgd:o.guard=none) {N:Tmp} (hd:o.dst=some N) (x y:Operand) (ho:o.op = .makeSlice 29 x y) (n:Nat) (hx:a.eval x = .int .i64 n) (hy:a.eval y = .int .i64 n) (hn:n≤64) (base:Nat) (hb:base≤W.heap.size)
  (h:∀ A c w1,Kd.R k39 39 w1 base (fun k=>W.heap.size≤k) (.slice A n c) (List.replicate n ⟨0,0,0⟩)→Below W.heap.size W w1→wpList Try.prog ops Q rest (a.put o.dst (.slice A n c)) w1):wpList Try.prog ops Q (o :: rest) a W:=by
 refine Kd.R_make k39 (w0:=W) base 39 hgd hd 29 x y ho (n:Int) hx hy Try.underlying29 (.agg #[.int .i64 0,.int .i64 0,.int .i64 0]) 24 info39 rfl (by decide) (by decide) ⟨0,0,0⟩ (okp:=fun k=>W.heap.size≤k) (ok:=fun k=>W.heap.size≤k) ?_ (fun _ h=>h) (Nat.le_refl _) (by omega) (by omega) (Below.refl _ _) hb ?_
 ·
  exact k39_mkM _ _ _ (⟨0,0,0⟩:S39)
 ·
  intro v1 w1 hR _ hg _
  rw [Int.toNat_natCast] at hR
  obtain ⟨A,c,e,_⟩:=Kd.R_reads hR
  rw [List.length_replicate] at e
  subst e
  exact h A c w1 hR (below_of_grown hg)
theorem GAt.ten_put {w0 W W2:World} {a:GA} {s:GS} {vR:Value} {n:Nat} {t':Int→Option Int} (h:GAt w0 W a s vR) (hg:W.grownBy W2 (some a.bt)) (hm:MapAt W2 Try.prog 3 a.bt (intF (Value.int .i64) t') n):GAt w0 W2 a { s with ten:=t' } vR:=by
 obtain ⟨m,hm0⟩:=h.ten
 have hnr:∀ {k:Nat} {cells:Array Value} {q:Nat},W.heap[k]? = some (.cells cells q (0,0))→some k≠some a.bt:=fun hc e=>map_ne hm0 hc (Option.some.inj e)
 refine ⟨h.below.grown hg h.below.size (fun k e=>by cases e;exact h.tb),(hg.block a.g h.lt (hnr h.blk)).trans h.blk,h.gb,h.tb,h.kb,h.par,h.parc,h.ord,h.ordc,⟨n,hm⟩,?_,?_,?_,?_,h.ne⟩
 ·
  refine Kd.R_mono (Kd.R_grown (Kd.R_bound h.gone) hg (fun k hk=>?_)) (fun _ _=>trivial)
  obtain ⟨_,_,_,q,_,cells,hc⟩:=hk
  exact hnr hc
 ·
  obtain ⟨m2,hm2⟩:=h.tak
  exact ⟨m2,hm2.grown hg (fun e=>h.ne (Option.some.inj e).symm)⟩
 ·
  refine Kd.R_mono (Kd.R_grown (Kd.R_bound h.tos) hg (fun k hk=>?_)) (fun _ _=>trivial)
  obtain ⟨_,_,_,q,_,cells,hc⟩:=hk
  exact hnr hc
 ·
  refine Kd.S_mono (Kd.S_grown (Kd.S_bound h.rg) hg (fun k hk=>?_)) (fun _ _=>trivial)
  obtain ⟨_,_,_,q,_,cells,hc⟩:=hk
  exact hnr hc
theorem startAt {w0 W:World} {bt bk nF cF cP cO:Nat} {AF AP AO:Option Addr} {vG vT:Value} {P:List S41} {ord:List Int} (hB:Below w0.heap.size w0 W) (hT:MapAt W Try.prog 3 bt (fun _=>none) 0) (hG:Kd.R Kd.bool 4 W w0.heap.size (fun _=>True) vG (List.replicate P.length false))
  (hK:MapAt W Try.prog 3 bk (fun _=>none) 0) (hO:Kd.R (Kd.int .i64) 3 W w0.heap.size (fun _=>True) vT (List.replicate P.length 0)) (hne:bt≠bk) (h1:w0.heap.size≤bt) (h2:w0.heap.size≤bk) (hp:Kd.C k41 w0 AP P.length P) (hpc:P.length≤cP) (ho:(Kd.int .i64).C w0 AO ord.length ord) (hoc:ord.length≤cO) :
  GAt w0 (W.alloc (.cells #[.slice AF nF cF,.slice AP P.length cP,.slice AO ord.length cO,.map (some bt),vG,.map (some bk),vT,.slice none 0 0] 78)) ⟨W.heap.size,bt,bk,AF,nF,cF,AP,cP,AO,cO,vG,vT⟩ (startG P ord 0) (.slice none 0 0):=by
 have hb:=below_alloc (Below.refl W.heap.size W) (.cells #[.slice AF nF cF,.slice AP P.length cP,.slice AO ord.length cO,.map (some bt),vG,.map (some bk),vT,.slice none 0 0] 78)
 refine ⟨below_step hB hb,blk_new _ _,hB.size,h1,h2,hp,hpc,ho,hoc,⟨0,?_⟩,Kd.R_below hG hb,⟨0,?_⟩,Kd.R_below hO hb,Kd.S_nil _ _ _ _ _,hne⟩
 ·
  have:=hT.kept hb
  rwa [intF_none (Value.int .i64)] at this
 ·
  have:=hK.kept hb
  rwa [intF_none Value.bool] at this
/-- An element of a row of moves is stored. -/
theorem mv_put {W:World} {base g n cap:Nat} {ok:Nat→Prop} {xs:List S39} (h:Kd.R k39 39 W base ok (.slice (some ⟨g,0,none⟩) n cap) xs) (i:Nat) (hi:i < n) (x:S39) :
  Kd.R k39 39 (W.setCells g (i * 3) [.int .i64 x.f0,.int .i64 x.f1,.int .i64 x.f2]) base ok (.slice (some ⟨g,0,none⟩) n cap) (xs.set i x)∧W.grownBy (W.setCells g (i * 3) [.int .i64 x.f0,.int .i64 x.f1,.int .i64 x.f2]) (some g):=by
 obtain ⟨c,hcl,hM,hcc,hfr⟩:=Kd.R_elem h z39 (i:Int) (by omega) (by omega)
 obtain ⟨e0,e1,e2,rfl⟩:∃ e0 e1 e2,c=[e0,e1,e2]:=by
  match c,hcl with
  | [e0,e1,e2],_=>exact ⟨e0,e1,e2,rfl⟩
 have:=Kd.R_seg h (i:Int) (by omega) (by omega) (seg:=[.int .i64 x.f0,.int .i64 x.f1,.int .i64 x.f2]) (j:=0) hcl hcc (show 3≤3 from by decide) (x':=x) (k39_mkM _ _ _ x) (fun _ hk=>hk)
 rwa [Int.toNat_natCast] at this
end Go.Proofs.Ytjgnkhfgmpaljaa.P
