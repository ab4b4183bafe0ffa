/- The contracts of digest.Ints and lottery.sum: the digest of numbers, each written out with a blank behind it; the table of powers of ten read as the program's text lays it. -/
import Derived.Test.YtfkeelccnomjkaaDoorGIsResidue
import Derived.Test.YtfkeelccnomjkaaDoorPRA
import Derived.Test.YtfkeelccnomjkaaDoorLay
import Derived.Lib.AppendIntMem
import Derived.Lib.ItoaLen
import Derived.Lib.UnsafeStr
namespace Go.Proofs.YtfkeelccnomjkaaDoor.P
open Go.RowKit Go.Proofs.YtfkeelccnomjkaaDoorW.PrintWords Go.Proofs.YtfkeelccnomjkaaDoorW.PrintLast Go.Proofs.YtfkeelccnomjkaaDoorW.PrintMore Go.Proofs.YtfkeelccnomjkaaDoor.M
set_option linter.unusedVariables false
set_option linter.unusedSimpArgs false
/-- The table of powers of ten, as laid. -/
def Gl (w : World) : Prop := Lib.TabIs Tryd.prog w "internal/strconv.uint64pow10" .u64 Lib.pow10Tab
theorem Gl.below {w W : World} (h : Gl w) (hb : Below w.heap.size w W) : Gl W := (Lib.tabBelow_of_tabIs h) W hb
/-- A number written out, as bytes. -/
def bytesI (n : Int) : List Int := (Lib.itoa n).map fun b => (b.toNat : Int)
def digB (l : List Int) : List Int := l.flatMap fun n => bytesI n ++ [32]
def stepS (h b : Int) : Int := IntKind.u64.wrap ((Go.bits .xor .u64 h (IntKind.u64.wrap b)) * 1099511628211)
def sumB (l : List Int) : Int := l.foldl stepS 14695981039346656037
/-- The digest of numbers. -/
def digF (l : List Int) : Int := sumB (digB l)
theorem digB_snoc (l : List Int) (n : Int) : digB (l ++ [n]) = digB l ++ bytesI n ++ [32] := by unfold digB; rw [List.flatMap_append]; simp
theorem bytesI_len {n : Int} (h0 : -9223372036854775808 ≤ n) (h1 : n ≤ 9223372036854775807) : (bytesI n).length ≤ 21 := by unfold bytesI; rw [List.length_map]; exact Lib.itoa_length_le n h0 h1
theorem digB_len : ∀ {l : List Int}, (∀ x ∈ l, -9223372036854775808 ≤ x ∧ x ≤ 9223372036854775807) → (digB l).length ≤ 22 * l.length := by
  intro l h
  induction l with
  | nil => exact Nat.le_refl _
  | cons x l ih =>
    have h1 := ih (fun y hy => h y (List.mem_cons_of_mem _ hy))
    have h2 := bytesI_len (h x (List.mem_cons_self)).1 (h x (List.mem_cons_self)).2
    unfold digB at h1 ⊢
    rw [List.flatMap_cons, List.length_append, List.length_append, List.length_cons]
    simp only [List.length_cons, List.length_nil]
    omega
theorem sum_ev (l : List Int) (hm : l.length ≤ 9223372036854775807) : Ev (fun k => digest_Sum.f k l) (sumB l) := by
  have h : ∀ d i : Nat, d = l.length - i → i ≤ l.length → Ev (fun k => digest_Sum.l0 k ((l.take i).foldl stepS 14695981039346656037) l (l.length : Int) (i : Int)) (sumB l) := by
    intro d
    induction d with
    | zero =>
      intro i hd hi
      obtain rfl : i = l.length := by omega
      refine Ev.step (fun k => by rw [digest_Sum.l0]) (evNeg (by omega) ?_)
      rw [List.take_length]; exact Ev.now _
    | succ d ih =>
      intro i hd hi
      have hlt : i < l.length := by omega
      refine Ev.step (fun k => by rw [digest_Sum.l0]) (evPos (by omega) (evPos (by omega) (evPos (by omega) ?_)))
      have h2 := ih (i + 1) (by omega) (by omega)
      have e : rd l (i : Int) = l[i] := by unfold rd; rw [Int.toNat_natCast, List.getD_eq_getElem?_getD, List.getElem?_eq_getElem hlt]; rfl
      rw [wrap_succ hlt hm]
      rw [List.take_succ_eq_append_getElem hlt, List.foldl_append] at h2
      rw [e]
      exact h2
  exact h l.length 0 rfl (Nat.zero_le _)
theorem AI_R (B : Nat) (v : Value) (bs : List Int) (i : Int) (h0 : -9223372036854775808 ≤ i) (h1 : i ≤ 9223372036854775807) (W : World) (hR : Kd.R (Kd.int .u8) 5 W B (fun _ => True) v bs) (hB : B ≤ W.heap.size) (hl : bs.length + 21 ≤ 140737488355328)
    (ht : Lib.TabBelow Tryd.prog B W "internal/strconv.uint64pow10" .u64 Lib.pow10Tab) :
    Calls Tryd.prog 61 #[v, .int .i64 i, .int .i64 10] W fun e w' => ∃ v', e = .returned v' ∧ Kd.R (Kd.int .u8) 5 w' B (fun _ => True) v' (bs ++ bytesI i) ∧ Below B W w' := by
  refine (Any.strconv_AppendInt_10 Tryd.layAI B bs.length i h0 h1 v (encs (Value.int .u8) bs) W (Kd.own_of_R hR) hB hl ht).mono ?_
  rintro e w' ⟨v', rfl, hown, hb, -⟩
  refine ⟨v', rfl, ?_, hb⟩
  refine Kd.R_of_own (enc := Value.int .u8) (h1 := fun _ => rfl) ?_ (fun _ _ => trivial)
  have e1 : encs (Value.int .u8) (bs ++ bytesI i) = encs (Value.int .u8) bs ++ Lib.byteCells (Lib.itoa i) := by simp [encs, bytesI, Lib.byteCells]
  have e2 : (bs ++ bytesI i).length = bs.length + (Lib.itoa i).length := by simp [bytesI]
  rw [e1, e2]
  exact hown
def SumPost (w : World) (r : Int) (e : Ending) (w' : World) : Prop := e = .returned (.int .u64 r) ∧ Below w.heap.size w w'
set_option maxHeartbeats 4000000 in
set_option maxRecDepth 100000 in
theorem digestInts_calls (A : Option Addr) (c : Nat) (l : List Int) (w : World) (hr : Kd.C (Kd.int .i64) w A l.length l) (hc : l.length ≤ c) (hl : l.length ≤ 1000) (hw : ∀ x ∈ l, -9223372036854775808 ≤ x ∧ x ≤ 9223372036854775807) (hg : Gl w) :
    Calls Tryd.prog 51 #[.slice A l.length c] w (SumPost w (digF l)) := by
  have HR := Aside0.mk hr
  have HW := Aside0.mk hw
  have HG := Aside0.mk (Lib.tabBelow_of_tabIs hg)
  clear hr hw hg
  go_enter Tryd.func51, Tryd.ntmps51
  go_wp2
  go_loopg [3, 5, 8] l.length (fun gk v3 v5 v8 w' => ∃ i : Nat, v8 = .int .i64 i ∧ Aside0 (i ≤ l.length ∧ gk = l.length - i) ∧ Aside0 (Kd.R (Kd.int .u8) 5 w' w.heap.size (fun _ => True) v3 (digB (l.take i))) ∧ Aside0 (Below w.heap.size w w'))
  case atStart => exact ⟨0, rfl, ⟨Nat.zero_le _, rfl⟩, ⟨Kd.R_nil _ _ _ _ _⟩, ⟨Below.refl _ _⟩⟩
  case round =>
    obtain ⟨i, rfl, HI, HO, HB⟩ := hrel
    have hi := HI.out.1
    by_cases hlt : i < l.length
    · obtain ⟨ad, e, x0⟩ := Kd.at_int HR.out (i : Int) (by omega) (by omega)
      cases e
      simp only [Int.toNat_natCast] at x0
      replace x0 := (HB.out.cell (World.block_lt_of_cell? w _ x0)).trans x0
      have hmem : rd l (i : Int) ∈ l := by
        have e : rd l (i : Int) = l[i] := by unfold rd; rw [Int.toNat_natCast, List.getD_eq_getElem?_getD, List.getElem?_eq_getElem hlt]; rfl
        rw [e]; exact List.getElem_mem hlt
      have HX := Aside0.mk (HW.out _ hmem)
      have HS : Aside0 (digB (l.take (i + 1)) = digB (l.take i) ++ bytesI (rd l (i : Int)) ++ [32]) := ⟨by
        have e : rd l (i : Int) = l[i] := by unfold rd; rw [Int.toNat_natCast, List.getD_eq_getElem?_getD, List.getElem?_eq_getElem hlt]; rfl
        rw [List.take_succ_eq_append_getElem hlt, digB_snoc, e]⟩
      have HL : Aside0 ((digB (l.take i)).length ≤ 22000) := ⟨by
        have h := digB_len (l := l.take i) (fun x hx => HW.out x (List.mem_of_mem_take hx))
        rw [List.length_take] at h
        omega⟩
      have HLB : Aside0 ((bytesI (rd l (i : Int))).length ≤ 21) := ⟨bytesI_len HX.out.1 HX.out.2⟩
      clear hmem
      generalize rd l (i : Int) = x at *
      obtain ⟨bs, hbs⟩ : ∃ bs, bs = digB (l.take i) := ⟨_, rfl⟩
      rw [← hbs] at HS HL HO
      clear hbs
      go_wp2_with (go_at_call 61; (with_reducible refine (AI_R w.heap.size _ bs x HX.out.1 HX.out.2 _ HO.out HB.out.size ?s1 (HG.out.on HB.out)).mono ?_); (case s1 => have := HL.out; omega); rintro e w2 ⟨v2, rfl, hR2, hb2⟩; have HO2 := Aside0.mk hR2; have HB2 := Aside0.mk (HB.out.trans hb2); clear hR2 hb2; refine Hid.out ?_)
      refine Lib.hid ?_
      clear HO HB x0
      go_wp2_with (at_builtin; refine Kd.R_append (Kd.int .u8) (w0 := w) w.heap.size rfl (.tmp 14) (.tmp 15) 97 5 (.int .u8 0) 1 rfl Tryd.underlying97 info5 rfl (by decide) (by omega) v2 (bs ++ bytesI x) 32 [.int .u8 32] (fun _ => True) (fun _ => False) rfl rfl ?aP (fun _ hk => hk.elim) (fun _ _ => trivial) ?aO ?aB ?aS ?aL ?_; (case aP => exact rfl); (case aO => exact HO2.out); (case aB => exact HB2.out); (case aS => exact HB2.out.size); (case aL => have h1 := HL.out; have h2 := HLB.out; rw [List.length_append]; omega); intro v3 w3 ho hb hg hat; have HO3 := Aside0.mk ho; have HB3 := Aside0.mk hb; clear ho hb hg hat)
      go_roundg (l.length - (i + 1))
      case measure => have := HI.out; omega
      case rel => exact ⟨i + 1, by go_num, ⟨by omega, rfl⟩, ⟨by rw [HS.out]; exact HO3.out⟩, HB3⟩
    · obtain rfl : i = l.length := by omega
      rw [List.take_length] at HO
      have HL : Aside0 ((digB l).length ≤ 22000) := ⟨by
        have h := digB_len HW.out
        omega⟩
      obtain ⟨K, hK⟩ := (sum_ev (digB l) (by have := HL.out; omega)).rounds
      have HK := Aside0.mk hK
      clear hK
      obtain ⟨A1, c1, rfl, hl1, hc1⟩ := Kd.R_reads HO.out
      have HC1 := Aside0.mk hc1
      have HL1 := Aside0.mk hl1
      clear hl1 hc1
      go_wp2_with (go_at_call 62; (with_reducible refine (digest_Sum.calls K A1 c1 (digB l) _ _ HC1.out HL1.out HK.out).mono ?_); rintro e w2 ⟨rfl, hd⟩; have HD := Aside0.mk hd; clear hd)
      go_ret
      exact ⟨rfl, below_step HB.out HD.out.below⟩
theorem blk_p1' (w : World) (o : Obj) (o' : Obj) : ((w.alloc o).alloc o').heap[w.heap.size + 1]? = some o' := by
  have h := blk_new (w.alloc o) o'
  rwa [World.size_alloc] at h
/-- The digest of a secret. -/
def sumF (a b c : Int) : Int := digF [a, b, c]
def okI (x : Int) : Prop := -9223372036854775808 ≤ x ∧ x ≤ 9223372036854775807
instance (a : Int) : Decidable (okI a) := inferInstanceAs (Decidable (_ ∧ _))
def lottery_sum.f (a b c : Int) : Option Int := if okI a ∧ okI b ∧ okI c then some (sumF a b c) else none
theorem digestInts3_calls (A : Option Addr) (a b c : Int) (w : World) (hr : Kd.C (Kd.int .i64) w A [a, b, c].length [a, b, c]) (hh : okI a ∧ okI b ∧ okI c) (hg : Gl w) :
    Calls Tryd.prog 51 #[.slice A 3 3] w (SumPost w (sumF a b c)) :=
  digestInts_calls A 3 [a, b, c] w hr (Nat.le_refl 3) (show 3 ≤ 1000 by decide) (fun x hx => by
    simp only [List.mem_cons, List.not_mem_nil, or_false] at hx
    rcases hx with rfl | rfl | rfl
    · exact hh.1
    · exact hh.2.1
    · exact hh.2.2) hg
set_option maxHeartbeats 4000000 in
set_option maxRecDepth 100000 in
theorem lottery_sum.calls (a b c r : Int) (w : World) (h : lottery_sum.f a b c = some r) (hg : Gl w) :
    Calls Tryd.prog 31 #[.agg #[.int .i64 a, .int .i64 b, .int .i64 c]] w fun e w' => e = .returned (.int .u64 r) ∧ Below w.heap.size w w' := by
  unfold lottery_sum.f at h
  split at h
  case isFalse => cases h
  rename_i hh
  obtain rfl := Option.some.inj h
  clear h
  have HG := Aside0.mk hg
  have HH := Aside0.mk hh
  have hu := Tryd.underlying23
  clear hg hh
  go_enter Tryd.func31, Tryd.ntmps31
  have BK := Aside0.mk (C_ints_blk [a, b, c] (blk_p1' w (.cells #[.int .i64 a, .int .i64 b, .int .i64 c] 23) (.cells #[.int .i64 a, .int .i64 b, .int .i64 c] 3)) (show 3 ≤ 9223372036854775807 by decide))
  have HB := Aside0.mk (below_alloc (below_alloc (Below.refl w.heap.size w) (.cells #[.int .i64 a, .int .i64 b, .int .i64 c] 23)) (.cells #[.int .i64 a, .int .i64 b, .int .i64 c] 3))
  go_wp2_with (go_at_call 51; (with_reducible refine (digestInts3_calls _ a b c _ BK.out HH.out (HG.out.below HB.out)).mono ?_); rintro e w2 ⟨rfl, hd⟩; have HD := Aside0.mk hd; clear hd)
  go_ret
  exact ⟨rfl, below_step HB.out HD.out⟩
end Go.Proofs.YtfkeelccnomjkaaDoor.P
