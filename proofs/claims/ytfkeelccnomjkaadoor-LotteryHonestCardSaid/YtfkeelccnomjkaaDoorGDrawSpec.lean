/- What pledges, value and Draw of package lottery compute, in plain terms. -/
import Derived.Test.YtfkeelccnomjkaaDoorGRecover
import Derived.Test.YtfkeelccnomjkaaDoorGSum
import Derived.Test.YtfkeelccnomjkaaDoorPRB
import Derived.Test.YtfkeelccnomjkaaDoorPRC
namespace Go.Proofs.YtfkeelccnomjkaaDoor.P
open Go.RowKit Go.Proofs.YtfkeelccnomjkaaDoorW.PrintWords Go.Proofs.YtfkeelccnomjkaaDoorW.PrintLast Go.Proofs.YtfkeelccnomjkaaDoorW.PrintMore Go.Proofs.YtfkeelccnomjkaaDoor.M
set_option linter.unusedVariables false
set_option linter.unusedSimpArgs false
/-- Does it hold from i to n? -/
def allFrom (p : Nat → Bool) (i n : Nat) : Bool := (List.range' i (n - i)).all p
theorem allFrom_end (p : Nat → Bool) (n : Nat) : allFrom p n n = true := by unfold allFrom; rw [Nat.sub_self]; rfl
theorem allFrom_step (p : Nat → Bool) {i n : Nat} (h : i < n) : allFrom p i n = (p i && allFrom p (i + 1) n) := by
  unfold allFrom
  obtain ⟨m, hm⟩ : ∃ m, n - i = m + 1 := ⟨n - i - 1, by omega⟩
  rw [hm, show n - (i + 1) = m by omega, List.range'_succ, List.all_cons]
theorem allFrom_iff {p : Nat → Bool} {i n : Nat} : allFrom p i n = true ↔ ∀ j, i ≤ j → j < n → p j = true := by
  unfold allFrom
  rw [List.all_eq_true]
  constructor
  · intro h j h1 h2
    exact h j (List.mem_range'.2 ⟨j - i, by omega, by omega⟩)
  · intro h x hx
    obtain ⟨d, hd, rfl⟩ := List.mem_range'.1 hx
    exact h _ (by omega) (by omega)
theorem rd31_get {l : List S31} {i : Nat} (h : i < l.length) : rd_T31 l (i : Int) = l[i] := by
  unfold rd_T31
  rw [Int.toNat_natCast, List.getD_eq_getElem?_getD, List.getElem?_eq_getElem h]
  rfl
theorem rd31_mem {l : List S31} {i : Nat} (h : i < l.length) : rd_T31 l (i : Int) ∈ l := by rw [rd31_get h]; exact List.getElem_mem h
theorem rd23_get {l : List S23} {i : Nat} (h : i < l.length) : rd_T23 l (i : Int) = l[i] := by
  unfold rd_T23
  rw [Int.toNat_natCast, List.getD_eq_getElem?_getD, List.getElem?_eq_getElem h]
  rfl
theorem rd23_mem {l : List S23} {i : Nat} (h : i < l.length) : rd_T23 l (i : Int) ∈ l := by rw [rd23_get h]; exact List.getElem_mem h
/-- Is the k-th share of a pledge as it should be? -/
def okSh (l : List S47) (k : Nat) : Bool := decide ((rd_T47 l (k : Int)).f0 = (k : Int) + 1) && isR (rd_T47 l (k : Int)).f1
def okPl (n : Nat) (p : S31) (i : Nat) : Bool := decide (p.f0 = (i : Int) + 1) && decide (p.f2.length = n) && allFrom (okSh p.f2) 0 p.f2.length
def pledgesB (l : List S31) : Bool := allFrom (fun i => okPl l.length (rd_T31 l (i : Int)) i) 0 l.length && inB (l.length : Int) 1 16
theorem pledges1_ev {l : List S31} (i : Nat) (hi : i < l.length) (hn : l.length ≤ 1000) (p : S31) (hp : p.f2.length = l.length) (b : Bool) (hk : Ev (fun k => lottery_pledges.l0 k l l (l.length : Int) ((i + 1 : Nat) : Int)) b) :
    ∀ d m : Nat, d = p.f2.length - m → m ≤ p.f2.length → Ev (fun k => lottery_pledges.l1 k l l (l.length : Int) (i : Int) p.f2 (p.f2.length : Int) (m : Int)) (allFrom (okSh p.f2) m p.f2.length && b) := by
  intro d
  induction d with
  | zero =>
    intro m hd hm
    obtain rfl : m = p.f2.length := by omega
    rw [allFrom_end, Bool.true_and]
    refine Ev.step (fun k => by rw [lottery_pledges.l1]) (evNeg (by omega) ?_)
    rw [wrap_succ hi (by omega)]
    exact hk
  | succ d ih =>
    intro m hd hm
    have hlt : m < p.f2.length := by omega
    rw [allFrom_step _ hlt]
    have h2 := ih (m + 1) (by omega) (by omega)
    refine Ev.step (fun k => by rw [lottery_pledges.l1]) (evPos (by omega) (evPos (by omega) (evPos (by omega) ?_)))
    rw [wrap_succ hlt (by omega)]
    have hs : lottery_isResidue.f [(rd_T47 p.f2 (m : Int)).f1] = some (isR (rd_T47 p.f2 (m : Int)).f1) := by unfold lottery_isResidue.f; simp
    unfold okSh
    by_cases h : (rd_T47 p.f2 (m : Int)).f0 = ((m + 1 : Nat) : Int)
    · refine evPos h (evSome hs ?_)
      rw [decide_eq_true (by omega), Bool.true_and]
      cases hb : isR (rd_T47 p.f2 (m : Int)).f1 with
      | true => exact evPos rfl (by rw [Bool.true_and]; exact h2)
      | false => exact evNeg (by decide) (by rw [Bool.false_and, Bool.false_and]; exact Ev.now _)
    · refine evNeg h ?_
      rw [decide_eq_false (by omega), Bool.false_and, Bool.false_and, Bool.false_and]
      exact Ev.now _
theorem pledges_ev {l : List S31} (hn : l.length ≤ 1000) : Ev (fun k => lottery_pledges.f k l) (pledgesB l) := by
  have h : ∀ d i : Nat, d = l.length - i → i ≤ l.length → Ev (fun k => lottery_pledges.l0 k l l (l.length : Int) (i : Int)) (allFrom (fun i => okPl l.length (rd_T31 l (i : Int)) i) i l.length && inB (l.length : Int) 1 16) := by
    intro d
    induction d with
    | zero =>
      intro i hd hi
      obtain rfl : i = l.length := by omega
      rw [allFrom_end, Bool.true_and]
      exact Ev.step (fun k => by rw [lottery_pledges.l0]) (evNeg (by omega) (evSome (between_f _ _ _) (Ev.now _)))
    | succ d ih =>
      intro i hd hi
      have hlt : i < l.length := by omega
      have h2 := ih (i + 1) (by omega) (by omega)
      rw [allFrom_step _ hlt]
      refine Ev.step (fun k => by rw [lottery_pledges.l0]) (evPos (by omega) (evPos (by omega) (evPos (by omega) ?_)))
      rw [wrap_succ hlt (by omega)]
      generalize hp : rd_T31 l (i : Int) = p
      unfold okPl
      by_cases h0 : p.f0 = ((i + 1 : Nat) : Int)
      · refine evPos h0 ?_
        rw [decide_eq_true (show p.f0 = (i : Int) + 1 by omega), Bool.true_and]
        by_cases h1 : p.f2.length = l.length
        · have e1 : ((p.f2.length : Int) != (l.length : Int)) = false := by rw [h1]; simp
          rw [decide_eq_true h1, Bool.true_and]
          refine Ev.step (fun k => by rw [lottery_pledges.j1]) (evNeg (by rw [e1]; decide) ?_)
          have h3 := pledges1_ev i hlt hn p h1 _ h2 p.f2.length 0 rfl (Nat.zero_le _)
          rw [Bool.and_assoc]
          exact h3
        · have e1 : ((p.f2.length : Int) != (l.length : Int)) = true := by rw [bne_iff_ne]; omega
          rw [decide_eq_false h1, Bool.false_and, Bool.false_and, Bool.false_and]
          exact Ev.step (fun k => by rw [lottery_pledges.j1]) (evPos e1 (Ev.now _))
      · refine evNeg h0 ?_
        rw [decide_eq_false (show ¬ p.f0 = (i : Int) + 1 by omega), Bool.false_and, Bool.false_and, Bool.false_and, Bool.false_and]
        exact Ev.step (fun k => by rw [lottery_pledges.j1]) (evPos rfl (Ev.now _))
  exact h l.length 0 rfl (Nat.zero_le _)
/-- The value of a pledge's shares, and whether it is sound. -/
def valF (l : List S47) (need : Nat) : Int × Bool := if (l.drop need).all (fun s => decide (thrF (l.take need) s.f0 = s.f1)) = true then (thrF (l.take need) 0, true) else (0, false)
theorem okShs_take {l : List S47} (h : okShs l) (n : Nat) : okShs (l.take n) := fun s hs => h s (List.mem_of_mem_take hs)
theorem value_ev {l : List S47} (hl : okShs l) (hn : l.length ≤ 1000) {need : Nat} (hd : need ≤ l.length) (a0 a1 : Int) : Ev (fun k => lottery_value.f k a0 a1 l (need : Int)) (valF l need) := by
  have hdl : (l.drop need).length = l.length - need := List.length_drop
  have htl : (l.take need).length ≤ 1000 := by rw [List.length_take]; omega
  have h : ∀ d i : Nat, d = (l.drop need).length - i → i ≤ (l.drop need).length → Ev (fun k => lottery_value.l0 k (l.take need) (l.drop need) ((l.drop need).length : Int) (i : Int)) (if ((l.drop need).drop i).all (fun s => decide (thrF (l.take need) s.f0 = s.f1)) = true then (thrF (l.take need) 0, true) else (0, false)) := by
    intro d
    induction d with
    | zero =>
      intro i hd hi
      obtain rfl : i = (l.drop need).length := by omega
      rw [List.drop_length, List.all_nil, if_pos rfl]
      refine Ev.step (fun k => by rw [lottery_value.l0]) (evNeg (by omega) ?_)
      exact Ev.bind (through_ev ⟨by decide, by decide⟩ (okShs_take hl _) htl) (Ev.now _)
    | succ d ih =>
      intro i hd hi
      have hlt : i < (l.drop need).length := by omega
      have h2 := ih (i + 1) (by omega) (by omega)
      have hm : rd_T47 (l.drop need) (i : Int) ∈ l := List.mem_of_mem_drop (rd47_mem hlt)
      rw [List.drop_eq_getElem_cons hlt, List.all_cons, ← rd47_get hlt]
      refine Ev.step (fun k => by rw [lottery_value.l0]) (evPos (by omega) (evPos (by omega) (evPos (by omega) ?_)))
      refine Ev.bind (through_ev (hl _ hm).1 (okShs_take hl _) htl) ?_
      by_cases e : thrF (l.take need) (rd_T47 (l.drop need) (i : Int)).f0 = (rd_T47 (l.drop need) (i : Int)).f1
      · refine evPos e ?_
        rw [decide_eq_true e, Bool.true_and, wrap_succ hlt (by omega)]
        exact h2
      · refine evNeg e ?_
        rw [decide_eq_false e, Bool.false_and, if_neg (by decide)]
        exact Ev.now _
  have h0 := h (l.drop need).length 0 rfl (Nat.zero_le _)
  rw [List.drop_zero] at h0
  unfold valF
  refine Ev.congr (fun k => ?_) h0
  rw [lottery_value.f, if_pos (by omega), if_pos (by omega), Option.bind_some, Int.toNat_natCast]
  rfl
/-- What the secrets that were opened say: by participant. -/
def byF (op : List S23) : Int → Option S23 := fun w => op.find? fun s => decide (s.f0 = w)
def okSec (n : Nat) (s : S23) : Bool := inB s.f0 1 (n : Int) && (isR s.f1 && isR s.f2)
def whosL (op : List S23) : List Int := op.map fun s => s.f0
def secretsB (op : List S23) (n : Nat) : Bool := op.all (okSec n) && decide (whosL op).Nodup
/-- Does what was opened fit the pledge? -/
def fitsB (op : List S23) (p : S31) : Bool := match byF op p.f0 with
  | none => false
  | some s => decide (sumF s.f0 s.f1 s.f2 = p.f1)
def cheatB (op : List S23) (need : Nat) (p : S31) : Bool := !(valF p.f2 need).2 || match byF op p.f0 with
  | none => false
  | some s => !decide (sumF s.f0 s.f1 s.f2 = p.f1) || decide (s.f1 ≠ (valF p.f2 need).1)
def seedF (l : List S31) (need : Nat) : Int := l.foldl (fun a p => (a + (valF p.f2 need).1) % 1073741789) 0
def cheatsL (l : List S31) (op : List S23) (need : Nat) : List Int := (l.filter (cheatB op need)).map fun p => p.f0
def rightN (l : List S31) (op : List S23) : Nat := (l.filter (fitsB op)).length
/-- What Draw returns. -/
def drawF (l : List S31) (need : Int) (op : List S23) : Int × List Int × Int :=
  if (pledgesB l && inB need 1 (l.length : Int) && secretsB op l.length) = true then
    if (rightN l op : Int) < need then (0, [], 33) else (seedF l need.toNat, cheatsL l op need.toNat, 0)
  else (0, [], 1)
def okOp (op : List S23) : Prop := ∀ s ∈ op, okI s.f0 ∧ okI s.f1 ∧ okI s.f2
instance (op : List S23) : Decidable (okOp op) := inferInstanceAs (Decidable (∀ s ∈ op, okI s.f0 ∧ okI s.f1 ∧ okI s.f2))
def lottery_Draw.f (l : List S31) (need : Int) (op : List S23) : Option (Int × List Int × Int) := if l.length ≤ 1000 ∧ op.length ≤ 1000 ∧ okOp op then some (drawF l need op) else none
theorem lottery_Draw.ok {l : List S31} {op : List S23} (need : Int) (h1 : l.length ≤ 1000) (h2 : op.length ≤ 1000) (h3 : okOp op) : lottery_Draw.f l need op = some (drawF l need op) := by unfold lottery_Draw.f; rw [if_pos ⟨h1, h2, h3⟩]
theorem okShs_pl {n : Nat} {p : S31} {i : Nat} (h : okPl n p i = true) (hn : n ≤ 16) : okShs p.f2 ∧ p.f2.length = n ∧ p.f0 = (i : Int) + 1 := by
  unfold okPl at h
  simp only [Bool.and_eq_true, decide_eq_true_eq, allFrom_iff] at h
  obtain ⟨⟨h1, h2⟩, h3⟩ := h
  refine ⟨fun s hs => ?_, h2, h1⟩
  obtain ⟨k, hk, rfl⟩ := List.getElem_of_mem hs
  have h4 := h3 k (Nat.zero_le _) hk
  unfold okSh at h4
  rw [rd47_get hk, Bool.and_eq_true, decide_eq_true_eq, isR_iff] at h4
  refine ⟨?_, h4.2⟩
  unfold rs
  omega
end Go.Proofs.YtfkeelccnomjkaaDoor.P
