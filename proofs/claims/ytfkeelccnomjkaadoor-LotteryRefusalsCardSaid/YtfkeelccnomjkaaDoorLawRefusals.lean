/- LotteryRefusals: whoever opens what, the seed is the same, and who opens nothing is named in both draws or in neither: the law returns true, whatever the pledges and secrets. -/
import Derived.Test.YtfkeelccnomjkaaDoorGHead
import Derived.Test.YtfkeelccnomjkaaDoorPXcohousinglaw22LotteryRefusals
import Derived.Test.YtfkeelccnomjkaaDoorOpenSL
namespace Go.Proofs.YtfkeelccnomjkaaDoor.P
open Go.RowKit Go.Proofs.YtfkeelccnomjkaaDoorW.PrintWords Go.Proofs.YtfkeelccnomjkaaDoorW.PrintLast Go.Proofs.YtfkeelccnomjkaaDoorW.PrintMore Go.Proofs.YtfkeelccnomjkaaDoor.M
set_option linter.unusedVariables false
set_option linter.unusedSimpArgs false
theorem any_step23 {l : List S23} {i : Nat} (h : i < l.length) (p : S23 → Bool) (b : Bool) : (b || (l.drop i).any p) = ((b || p (rd_T23 l (i : Int))) || (l.drop (i + 1)).any p) := by
  rw [List.drop_eq_getElem_cons h, List.any_cons, ← rd23_get h, Bool.or_assoc]
theorem any_stepI {l : List Int} {i : Nat} (h : i < l.length) (p : Int → Bool) (b : Bool) : (b || (l.drop i).any p) = ((b || p (rd l (i : Int))) || (l.drop (i + 1)).any p) := by
  rw [List.drop_eq_getElem_cons h, List.any_cons, ← rdI_get h, Bool.or_assoc]
theorem drop_any_end {α : Type} (l : List α) (p : α → Bool) (b : Bool) : (b || (l.drop l.length).any p) = b := by rw [List.drop_length, List.any_nil, Bool.or_false]
section
variable (l : List S31) (o t : List S23) (a : Int) (x : List Int) (b : Int) (y : List Int) (who : Int) (r : Bool)
theorem ref4 (f1 f2 : Bool) (hy : y.length ≤ 1000) : ∀ d m : Nat, d = y.length - m → m ≤ y.length → ∀ f3 : Bool,
    Ev (fun k => if f1 = true then cohousinglaw22_LotteryRefusals.l0 k l o t true a x b y (wrap64 (who + 1)) else cohousinglaw22_LotteryRefusals.l0 k l o t (f2 == (f3 || (y.drop m).any (fun z => z == who))) a x b y (wrap64 (who + 1))) r →
    Ev (fun k => cohousinglaw22_LotteryRefusals.l4 k l o t true a x b y who f1 f2 f3 y (y.length : Int) (m : Int)) r := by
  intro d
  induction d with
  | zero =>
    intro m hd hm f3 hk
    obtain rfl : m = y.length := by omega
    rw [drop_any_end] at hk
    exact Ev.step (fun k => by rw [cohousinglaw22_LotteryRefusals.l4]) (evNeg (by omega) (evPos rfl hk))
  | succ d ih =>
    intro m hd hm f3 hk
    have hlt : m < y.length := by omega
    rw [any_stepI hlt] at hk
    have h2 := ih (m + 1) (by omega) (by omega) _ hk
    refine Ev.step (fun k => by rw [cohousinglaw22_LotteryRefusals.l4]) (evPos (by omega) (evPos (by omega) (evPos (by omega) ?_)))
    rw [wrap_succ hlt (by omega)]
    cases f3 with
    | true => exact evPos rfl h2
    | false => exact evNeg (by decide) (by rw [Bool.false_or] at h2; exact h2)
theorem ref3 (f1 : Bool) (hx : x.length ≤ 1000) (hy : y.length ≤ 1000) : ∀ d m : Nat, d = x.length - m → m ≤ x.length → ∀ f2 : Bool,
    Ev (fun k => if f1 = true then cohousinglaw22_LotteryRefusals.l0 k l o t true a x b y (wrap64 (who + 1)) else cohousinglaw22_LotteryRefusals.l0 k l o t ((f2 || (x.drop m).any (fun z => z == who)) == (y.any (fun z => z == who))) a x b y (wrap64 (who + 1))) r →
    Ev (fun k => cohousinglaw22_LotteryRefusals.l3 k l o t true a x b y who f1 f2 false x (x.length : Int) (m : Int)) r := by
  intro d
  induction d with
  | zero =>
    intro m hd hm f2 hk
    obtain rfl : m = x.length := by omega
    rw [drop_any_end] at hk
    refine Ev.step (fun k => by rw [cohousinglaw22_LotteryRefusals.l3]) (evNeg (by omega) ?_)
    refine ref4 l o t a x b y who r f1 f2 hy y.length 0 rfl (Nat.zero_le _) false ?_
    rw [List.drop_zero, Bool.false_or]; exact hk
  | succ d ih =>
    intro m hd hm f2 hk
    have hlt : m < x.length := by omega
    rw [any_stepI hlt] at hk
    have h2 := ih (m + 1) (by omega) (by omega) _ hk
    refine Ev.step (fun k => by rw [cohousinglaw22_LotteryRefusals.l3]) (evPos (by omega) (evPos (by omega) (evPos (by omega) ?_)))
    rw [wrap_succ hlt (by omega)]
    cases f2 with
    | true => exact evPos rfl h2
    | false => exact evNeg (by decide) (by rw [Bool.false_or] at h2; exact h2)
theorem ref2 (hx : x.length ≤ 1000) (hy : y.length ≤ 1000) (ht : t.length ≤ 1000) : ∀ d m : Nat, d = t.length - m → m ≤ t.length → ∀ f1 : Bool,
    Ev (fun k => if (f1 || (t.drop m).any (fun s => s.f0 == who)) = true then cohousinglaw22_LotteryRefusals.l0 k l o t true a x b y (wrap64 (who + 1)) else cohousinglaw22_LotteryRefusals.l0 k l o t ((x.any (fun z => z == who)) == (y.any (fun z => z == who))) a x b y (wrap64 (who + 1))) r →
    Ev (fun k => cohousinglaw22_LotteryRefusals.l2 k l o t true a x b y who f1 false false t (t.length : Int) (m : Int)) r := by
  intro d
  induction d with
  | zero =>
    intro m hd hm f1 hk
    obtain rfl : m = t.length := by omega
    rw [drop_any_end] at hk
    refine Ev.step (fun k => by rw [cohousinglaw22_LotteryRefusals.l2]) (evNeg (by omega) ?_)
    refine ref3 l o t a x b y who r f1 hx hy x.length 0 rfl (Nat.zero_le _) false ?_
    rw [List.drop_zero, Bool.false_or]; exact hk
  | succ d ih =>
    intro m hd hm f1 hk
    have hlt : m < t.length := by omega
    rw [any_step23 hlt] at hk
    have h2 := ih (m + 1) (by omega) (by omega) _ hk
    refine Ev.step (fun k => by rw [cohousinglaw22_LotteryRefusals.l2]) (evPos (by omega) (evPos (by omega) (evPos (by omega) ?_)))
    rw [wrap_succ hlt (by omega)]
    cases f1 with
    | true => exact evPos rfl h2
    | false => exact evNeg (by decide) (by rw [Bool.false_or] at h2; exact h2)
theorem ref1 (hx : x.length ≤ 1000) (hy : y.length ≤ 1000) (ht : t.length ≤ 1000) (ho : o.length ≤ 1000) : ∀ d m : Nat, d = o.length - m → m ≤ o.length → ∀ f1 : Bool,
    Ev (fun k => if ((f1 || (o.drop m).any (fun s => s.f0 == who)) || t.any (fun s => s.f0 == who)) = true then cohousinglaw22_LotteryRefusals.l0 k l o t true a x b y (wrap64 (who + 1)) else cohousinglaw22_LotteryRefusals.l0 k l o t ((x.any (fun z => z == who)) == (y.any (fun z => z == who))) a x b y (wrap64 (who + 1))) r →
    Ev (fun k => cohousinglaw22_LotteryRefusals.l1 k l o t true a x b y who f1 false false o (o.length : Int) (m : Int)) r := by
  intro d
  induction d with
  | zero =>
    intro m hd hm f1 hk
    obtain rfl : m = o.length := by omega
    rw [drop_any_end] at hk
    refine Ev.step (fun k => by rw [cohousinglaw22_LotteryRefusals.l1]) (evNeg (by omega) ?_)
    refine ref2 l o t a x b y who r hx hy ht t.length 0 rfl (Nat.zero_le _) f1 ?_
    rw [List.drop_zero]; exact hk
  | succ d ih =>
    intro m hd hm f1 hk
    have hlt : m < o.length := by omega
    rw [any_step23 hlt] at hk
    have h2 := ih (m + 1) (by omega) (by omega) _ hk
    refine Ev.step (fun k => by rw [cohousinglaw22_LotteryRefusals.l1]) (evPos (by omega) (evPos (by omega) (evPos (by omega) ?_)))
    rw [wrap_succ hlt (by omega)]
    cases f1 with
    | true => exact evPos rfl h2
    | false => exact evNeg (by decide) (by rw [Bool.false_or] at h2; exact h2)
end
theorem cheats_mem {l : List S31} {op : List S23} {need : Nat} {who : Int} : who ∈ cheatsL l op need ↔ ∃ p ∈ l, p.f0 = who ∧ cheatB op need p = true := by
  unfold cheatsL
  rw [List.mem_map]
  constructor
  · rintro ⟨p, hp, rfl⟩
    rw [List.mem_filter] at hp
    exact ⟨p, hp.1, rfl, hp.2⟩
  · rintro ⟨p, hp, rfl, hc⟩
    exact ⟨p, List.mem_filter.2 ⟨hp, hc⟩, rfl⟩
theorem anyI_iff {x : List Int} {who : Int} : x.any (fun z => z == who) = decide (who ∈ x) := by
  rw [Bool.eq_iff_iff, List.any_eq_true, decide_eq_true_eq]
  constructor
  · rintro ⟨z, hz, h⟩
    have : z = who := by simpa using h
    rw [← this]; exact hz
  · intro h; exact ⟨who, h, by simp⟩
theorem any23_iff {o : List S23} {who : Int} : o.any (fun s => s.f0 == who) = decide (who ∈ whosL o) := by
  rw [Bool.eq_iff_iff, List.any_eq_true, decide_eq_true_eq]
  unfold whosL
  rw [List.mem_map]
  constructor
  · rintro ⟨z, hz, h⟩
    exact ⟨z, hz, by simpa using h⟩
  · rintro ⟨z, hz, h⟩; exact ⟨z, hz, by simp [h]⟩
theorem drawF_ok {l : List S31} {need : Int} {op : List S23} (h : (drawF l need op).2.2 = 0) : drawF l need op = (seedF l need.toNat, cheatsL l op need.toNat, 0) := by
  unfold drawF at h ⊢
  split at h
  · rename_i h1
    rw [if_pos h1]
    split at h
    · cases h
    · rename_i h2; rw [if_neg h2]
  · cases h
theorem cheats_len (l : List S31) (op : List S23) (n : Nat) : (cheatsL l op n).length ≤ l.length := by
  unfold cheatsL; rw [List.length_map]; exact List.length_filter_le _ _
theorem LotteryRefusals_pure (l : List S31) (need : Int) (o t : List S23) (ho : okOp o) (ht : okOp t) : ∃ k, cohousinglaw22_LotteryRefusals.f k l need o t = some true := by
  refine Ev.rounds (g := fun k => cohousinglaw22_LotteryRefusals.f k l need o t) ?_
  refine evSome (show cohousinglaw22_head.f = some true from rfl) ?_
  have bad : Ev (fun k => cohousinglaw22_LotteryRefusals.j0 k l need o t true true) true := Ev.step (fun k => by rw [cohousinglaw22_LotteryRefusals.j0]) (evPos rfl (Ev.now _))
  refine evIte (fun _ => bad) fun h1 => evIte (fun _ => bad) fun h2 => ?_
  by_cases h3 : (t.length : Int) > 16
  · rw [decide_eq_true h3]; exact bad
  rw [decide_eq_false h3]
  refine Ev.step (fun k => by rw [cohousinglaw22_LotteryRefusals.j0]) (evNeg (by decide) ?_)
  refine evSome (lottery_Draw.ok need (show l.length ≤ 1000 by omega) (show o.length ≤ 1000 by omega) ho) ?_
  refine evSome (lottery_Draw.ok need (show l.length ≤ 1000 by omega) (show t.length ≤ 1000 by omega) ht) ?_
  have bad1 : ∀ (a : Int) (x : List Int) (b : Int) (y : List Int), Ev (fun k => cohousinglaw22_LotteryRefusals.j1 k l o t true a x b y true) true := fun a x b y => Ev.step (fun k => by rw [cohousinglaw22_LotteryRefusals.j1]) (evPos rfl (Ev.now _))
  refine evIte (fun h4 => ?_) (fun _ => bad1 _ _ _ _)
  by_cases h5 : (drawF l need t).2.2 = 0
  · rw [h5]
    rw [drawF_ok h4, drawF_ok h5]
    refine Ev.step (fun k => by rw [cohousinglaw22_LotteryRefusals.j1]) (evNeg (by decide) ?_)
    have hx := cheats_len l o need.toNat
    have hy := cheats_len l t need.toNat
    have hmain : ∀ who : Int, who ∉ whosL o → who ∉ whosL t → (who ∈ cheatsL l o need.toNat ↔ who ∈ cheatsL l t need.toNat) := by
      intro who w1 w2
      rw [cheats_mem, cheats_mem]
      have e : ∀ p : S31, p.f0 = who → cheatB o need.toNat p = cheatB t need.toNat p := by
        intro p hp
        unfold cheatB
        rw [byF_none.2 (by rw [hp]; exact w1), byF_none.2 (by rw [hp]; exact w2)]
      constructor
      · rintro ⟨p, hp, h6, h7⟩; exact ⟨p, hp, h6, by rw [← e p h6]; exact h7⟩
      · rintro ⟨p, hp, h6, h7⟩; exact ⟨p, hp, h6, by rw [e p h6]; exact h7⟩
    show Ev (fun k => cohousinglaw22_LotteryRefusals.l0 k l o t true (seedF l need.toNat) (cheatsL l o need.toNat) (seedF l need.toNat) (cheatsL l t need.toNat) 1) true
    have h : ∀ d i : Nat, d = l.length - i → i ≤ l.length → Ev (fun k => cohousinglaw22_LotteryRefusals.l0 k l o t true (seedF l need.toNat) (cheatsL l o need.toNat) (seedF l need.toNat) (cheatsL l t need.toNat) ((i + 1 : Nat) : Int)) true := by
      intro d
      induction d with
      | zero =>
        intro i hd hi
        obtain rfl : i = l.length := by omega
        exact Ev.step (fun k => by rw [cohousinglaw22_LotteryRefusals.l0]) (evNeg (by omega) (evPos rfl (evEq (Ev.now _) (by simp))))
      | succ d ih =>
        intro i hd hi
        have h6 := ih (i + 1) (by omega) (by omega)
        refine Ev.step (fun k => by rw [cohousinglaw22_LotteryRefusals.l0]) (evPos (by omega) ?_)
        refine ref1 l o t _ _ _ _ ((i + 1 : Nat) : Int) true (by omega) (by omega) (by omega) (by omega) o.length 0 rfl (Nat.zero_le _) false ?_
        rw [List.drop_zero, Bool.false_or, any23_iff, any23_iff, anyI_iff, anyI_iff, wrap_succ (show i + 1 < 1001 by omega) (by omega)]
        by_cases w1 : ((i + 1 : Nat) : Int) ∈ whosL o
        · rw [decide_eq_true w1, Bool.true_or]; exact evPos rfl h6
        · by_cases w2 : ((i + 1 : Nat) : Int) ∈ whosL t
          · rw [decide_eq_true w2, Bool.or_true]; exact evPos rfl h6
          · rw [decide_eq_false w1, decide_eq_false w2]
            refine evNeg (by decide) ?_
            have e := hmain _ w1 w2
            have e2 : (decide (((i + 1 : Nat) : Int) ∈ cheatsL l o need.toNat) == decide (((i + 1 : Nat) : Int) ∈ cheatsL l t need.toNat)) = true := by
              rw [beq_iff_eq]; exact decide_eq_decide.2 e
            rw [e2]; exact h6
    exact h l.length 0 rfl (Nat.zero_le _)
  · rw [show ((drawF l need t).2.2 != 0) = true from bne_iff_ne.2 h5]
    exact bad1 _ _ _ _
theorem okOp_of {op : List S23} (h : ∀ x ∈ op, wfS23 x) : okOp op := fun s hs => ⟨wf_i64_bd (h s hs).1, wf_i64_bd (h s hs).2.1, wf_i64_bd (h s hs).2.2⟩
theorem LotteryRefusals_calls (A0 : Option Addr) (c0 : Nat) (l : List S31) (need : Int) (A2 : Option Addr) (c2 : Nat) (o : List S23) (A3 : Option Addr) (c3 : Nat) (t : List S23) (w : World) (hr0 : Kd.C k31 w A0 l.length l) (hc0 : l.length ≤ c0) (hr2 : Kd.C k23 w A2 o.length o) (hc2 : o.length ≤ c2) (hr3 : Kd.C k23 w A3 t.length t) (hc3 : t.length ≤ c3)
    (w0 : l.length ≤ maxLen ∧ ∀ x ∈ l, wfS31 x) (w1 : (Lit.int .i64 need).wf = true) (w2 : o.length ≤ maxLen ∧ ∀ x ∈ o, wfS23 x) (w3 : t.length ≤ maxLen ∧ ∀ x ∈ t, wfS23 x) (hg : Gl w) :
    Calls Tryd.prog 8 #[.slice A0 l.length c0, .int .i64 need, .slice A2 o.length c2, .slice A3 t.length c3] w fun e w' => e = .returned (.bool true) ∧ Below w.heap.size w w' := by
  obtain ⟨k, hk⟩ := LotteryRefusals_pure l need o t (okOp_of w2.2) (okOp_of w3.2)
  exact cohousinglaw22_LotteryRefusals.calls k A0 c0 l need A2 c2 o A3 c3 t true w hr0 hc0 hr2 hc2 hr3 hc3 hk hg
end Go.Proofs.YtfkeelccnomjkaaDoor.P
