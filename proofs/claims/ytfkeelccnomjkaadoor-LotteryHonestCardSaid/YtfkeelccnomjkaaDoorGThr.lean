/- What lottery.through computes: Lagrange's interpolation through shares, modulo Q. -/
import Derived.Test.YtfkeelccnomjkaaDoorPRC
import Derived.Test.YtfkeelccnomjkaaDoorGField
namespace Go.Proofs.YtfkeelccnomjkaaDoor.P
open Go.RowKit Go.Proofs.YtfkeelccnomjkaaDoorW.PrintWords Go.Proofs.YtfkeelccnomjkaaDoorW.PrintLast Go.Proofs.YtfkeelccnomjkaaDoorW.PrintMore Go.Proofs.YtfkeelccnomjkaaDoor.M Go.Proofs.YtfkeelccnomjkaaDoor.QF
set_option linter.unusedVariables false
set_option linter.unusedSimpArgs false
theorem rd47_get {l : List S47} {i : Nat} (h : i < l.length) : rd_T47 l (i : Int) = l[i] := by
  unfold rd_T47
  rw [Int.toNat_natCast, List.getD_eq_getElem?_getD, List.getElem?_eq_getElem h]
  rfl
theorem rd47_mem {l : List S47} {i : Nat} (h : i < l.length) : rd_T47 l (i : Int) ∈ l := by rw [rd47_get h]; exact List.getElem_mem h
def ssL (l : List S47) : List (Int × Int) := l.map fun s => (s.f0, s.f1)
theorem ssL_len (l : List S47) : (ssL l).length = l.length := by unfold ssL; rw [List.length_map]
theorem ssL_get {l : List S47} {i : Nat} (h : i < l.length) : (ssL l).getD i (0, 0) = ((rd_T47 l (i : Int)).f0, (rd_T47 l (i : Int)).f1) := by
  rw [rd47_get h]; unfold ssL
  rw [List.getD_eq_getElem?_getD, List.getElem?_map, List.getElem?_eq_getElem h]; rfl
/-- Differences to the points but the i-th. -/
def difL (l : List S47) (a : Int) (i k : Nat) : List Int := ((l.take k).eraseIdx i).map fun t => (a - t.f0) % 1073741789
theorem difL_zero (l : List S47) (a : Int) (i : Nat) : difL l a i 0 = [] := by unfold difL; rw [List.take_zero]; rfl
theorem difL_same {l : List S47} (a : Int) {i : Nat} (h : i < l.length) : difL l a i (i + 1) = difL l a i i := by
  unfold difL
  congr 1
  rw [List.take_succ_eq_append_getElem h, List.eraseIdx_append_of_length_le (by rw [List.length_take]; omega), List.length_take, Nat.min_eq_left (by omega), Nat.sub_self]
  rw [List.eraseIdx_of_length_le (l := l.take i) (by rw [List.length_take]; omega)]
  simp
theorem difL_other {l : List S47} (a : Int) {i k : Nat} (h : k < l.length) (hk : k ≠ i) : difL l a i (k + 1) = difL l a i k ++ [(a - (rd_T47 l (k : Int)).f0) % 1073741789] := by
  rw [rd47_get h]; unfold difL
  rw [List.take_succ_eq_append_getElem h]
  rcases Nat.lt_or_ge i k with hlt | hge
  · rw [List.eraseIdx_append_of_lt_length (by rw [List.length_take]; omega), List.map_append]; rfl
  · rw [List.eraseIdx_of_length_le (by rw [List.length_append, List.length_take, List.length_singleton]; omega), List.eraseIdx_of_length_le (by rw [List.length_take]; omega), List.map_append]; rfl
theorem difL_len (l : List S47) (a : Int) (i k : Nat) : (difL l a i k).length ≤ k := by
  unfold difL
  rw [List.length_map, List.length_eraseIdx, List.length_take]
  split <;> omega
theorem difL_rs (l : List S47) (a : Int) (i k : Nat) : ∀ x ∈ difL l a i k, rs x := by
  intro x hx
  unfold difL at hx
  obtain ⟨t, _, rfl⟩ := List.mem_map.1 hx
  exact rs_mod _
/-- The i-th part. -/
def partF (l : List S47) (x : Int) (i : Nat) : Int := mulF (difL l x i l.length) (rd_T47 l (i : Int)).f1 * invF (mulF (difL l (rd_T47 l (i : Int)).f0 i l.length) 1) % 1073741789
def partsF (l : List S47) (x : Int) (k : Nat) : List Int := (List.range k).map (partF l x)
/-- The value at a point of the polynomial through shares. -/
@[irreducible] def thrF (l : List S47) (x : Int) : Int := addF (partsF l x l.length) 0
theorem partsF_succ (l : List S47) (x : Int) (k : Nat) : partsF l x (k + 1) = partsF l x k ++ [partF l x k] := by simp [partsF, List.range_succ]
theorem partsF_rs (l : List S47) (x : Int) (k : Nat) : ∀ y ∈ partsF l x k, rs y := by
  intro y hy
  unfold partsF at hy
  obtain ⟨t, _, rfl⟩ := List.mem_map.1 hy
  exact rs_mod _
theorem thrF_rs (l : List S47) (x : Int) : rs (thrF l x) := by unfold thrF; exact rs_addF _ ⟨by decide, by decide⟩
/-- Points and values within their ranges. -/
def okShs (l : List S47) : Prop := ∀ s ∈ l, rs s.f0 ∧ rs s.f1
theorem thr1_ev {l : List S47} {x : Int} (hx : rs x) (hl : okShs l) (hn : l.length ≤ 1000) (i : Nat) (hi : i < l.length) (r : Int) (ps : List Int) (hps : ps.length ≤ 1000)
    (hk : Ev (fun k => lottery_through.l0 k l x (ps ++ [partF l x i]) l (l.length : Int) ((i + 1 : Nat) : Int)) r) :
    ∀ d m : Nat, d = l.length - m → m ≤ l.length → Ev (fun k => lottery_through.l1 k l x ps (i : Int) (difL l x i m) (difL l (rd_T47 l (i : Int)).f0 i m) l (l.length : Int) (i : Int) l (l.length : Int) (m : Int) (rd_T47 l (i : Int)).f0 (rd_T47 l (i : Int)).f1) r := by
  have hli := hl _ (rd47_mem hi)
  intro d
  induction d with
  | zero =>
    intro m hd hm
    obtain rfl : m = l.length := by omega
    refine Ev.step (fun k => by rw [lottery_through.l1]) (evNeg (by omega) ?_)
    have h1 := rs_mulF (difL l x i l.length) hli.2
    have h2 := rs_mulF (difL l (rd_T47 l (i : Int)).f0 i l.length) (show rs 1 from ⟨by decide, by decide⟩)
    refine evSome (lottery_fold.times hli.2 (difL_rs _ _ _ _)) (evSome (lottery_fold.times ⟨by decide, by decide⟩ (difL_rs _ _ _ _)) ?_)
    refine Ev.bind (inverse_ev h2) ?_
    refine evSome (times_f h1 (invF_rs _)) (evPos (by omega) ?_)
    rw [wrap_succ (n := 1001) (by omega) (by omega)]
    exact hk
  | succ d ih =>
    intro m hd hm
    have hlt : m < l.length := by omega
    have hlm := hl _ (rd47_mem hlt)
    refine Ev.step (fun k => by rw [lottery_through.l1]) (evPos (by omega) (evPos (by omega) (evPos (by omega) ?_)))
    have h2 := ih (m + 1) (by omega) (by omega)
    rw [wrap_succ hlt (by omega)]
    by_cases e : m = i
    · subst e
      refine evPos rfl ?_
      rw [difL_same _ hi, difL_same _ hi] at h2
      exact h2
    · refine evNeg (by omega) ?_
      rw [difL_other _ hlt e, difL_other _ hlt e] at h2
      have l1 := difL_len l x i m
      have l2 := difL_len l (rd_T47 l (i : Int)).f0 i m
      refine evSome (minus_f hx hlm.1) (evPos (by omega) (evSome (minus_f hli.1 hlm.1) (evPos (by omega) h2)))
theorem through_ev {l : List S47} {x : Int} (hx : rs x) (hl : okShs l) (hn : l.length ≤ 1000) : Ev (fun k => lottery_through.f k l x) (thrF l x) := by
  have h : ∀ d i : Nat, d = l.length - i → i ≤ l.length → Ev (fun k => lottery_through.l0 k l x (partsF l x i) l (l.length : Int) (i : Int)) (thrF l x) := by
    intro d
    induction d with
    | zero =>
      intro i hd hi
      obtain rfl : i = l.length := by omega
      refine Ev.step (fun k => by rw [lottery_through.l0]) (evNeg (by omega) ?_)
      refine evSome (lottery_fold.plus ⟨by decide, by decide⟩ (partsF_rs _ _ _)) ?_
      rw [thrF]; exact Ev.now _
    | succ d ih =>
      intro i hd hi
      have hlt : i < l.length := by omega
      refine Ev.step (fun k => by rw [lottery_through.l0]) (evPos (by omega) (evPos (by omega) (evPos (by omega) ?_)))
      have h2 := ih (i + 1) (by omega) (by omega)
      rw [partsF_succ] at h2
      have h3 := thr1_ev hx hl hn i hlt (thrF l x) (partsF l x i) (by simp [partsF]; omega) h2 l.length 0 rfl (Nat.zero_le _)
      rw [difL_zero, difL_zero] at h3
      exact h3
  exact h l.length 0 rfl (Nat.zero_le _)
/-! ### As QField's 'thr' -/
theorem difL_cg (l : List S47) (a : Int) (i : Nat) : Cg 1073741789 (prodL (difL l a i l.length)) (prodL (((ssL l).eraseIdx i).map fun t => a - t.1)) := by
  have e : ((ssL l).eraseIdx i).map (fun t => a - t.1) = (l.eraseIdx i).map (fun t => a - t.f0) := by
    unfold ssL; rw [erase_map, List.map_map]; rfl
  rw [e]; unfold difL; rw [List.take_length]
  exact prodL_map_cg (fun t _ => cgm _)
theorem partF_cg {l : List S47} (x : Int) {i : Nat} (hi : i < l.length) : Cg 1073741789 (partF l x i) (((ssL l).getD i (0, 0)).2 * wt 1073741789 (ssL l) i x) := by
  unfold partF wt
  rw [ssL_get hi]
  refine (cgm _).trans (((mulF_cg _ _).mul ((invF_cg _).trans ((mulF_cg _ _).pow _))).trans ?_)
  rw [Int.one_mul]
  refine (((Cg.refl _ _).mul (difL_cg l x i)).mul ((difL_cg l _ i).pow _)).trans (Cg.of_eq ?_)
  rw [Int.mul_assoc]
theorem thrF_sum (l : List S47) (x : Int) : ∀ k, k ≤ l.length → Cg 1073741789 (sumI (partsF l x k)) (thr 1073741789 (ssL l) x k)
  | 0, _ => Cg.refl _ _
  | k + 1, h => by
    rw [partsF_succ]
    have : ∀ (a : List Int) (b : Int), sumI (a ++ [b]) = sumI a + b := by
      intro a b
      induction a with
      | nil => simp [sumI]
      | cons y a ih => simp only [List.cons_append, sumI, ih]; omega
    rw [this]
    show Cg _ _ (thr 1073741789 (ssL l) x k + ((ssL l).getD k (0, 0)).2 * wt 1073741789 (ssL l) k x)
    exact (thrF_sum l x k (by omega)).add (partF_cg x (by omega))
theorem thrF_cg (l : List S47) (x : Int) : Cg 1073741789 (thrF l x) (thr 1073741789 (ssL l) x (ssL l).length) := by
  rw [ssL_len]; unfold thrF
  refine (addF_cg _ _).trans ?_
  rw [Int.zero_add]
  exact thrF_sum l x l.length (Nat.le_refl _)
end Go.Proofs.YtfkeelccnomjkaaDoor.P
