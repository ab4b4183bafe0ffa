/- What the reference's functions compute: the same as the program's (field, At, Through, Recover, Sum). -/
import Derived.Test.YtfkeelccnomjkaaDoorLPure
import Derived.Test.YtfkeelccnomjkaaDoorPR1
namespace Go.Proofs.YtfkeelccnomjkaaDoor.P
open Go.RowKit Go.Proofs.YtfkeelccnomjkaaDoorW.PrintWords Go.Proofs.YtfkeelccnomjkaaDoorW.PrintLast Go.Proofs.YtfkeelccnomjkaaDoorW.PrintMore Go.Proofs.YtfkeelccnomjkaaDoor.M Go.Proofs.YtfkeelccnomjkaaDoor.QF
set_option linter.unusedVariables false
set_option linter.unusedSimpArgs false
/-! ### Residues -/
theorem rin_f (n lo hi : Int) : cohousingref22_in.f n lo hi = some (inB n lo hi) := by
  unfold cohousingref22_in.f inB
  by_cases h : n ≥ lo
  · rw [if_pos h, decide_eq_true h, Bool.true_and]
  · rw [if_neg h, decide_eq_false h, Bool.false_and]
theorem rres_f (n : Int) : cohousingref22_Residue.f n = some (isR n) := by
  unfold cohousingref22_Residue.f isR inB
  by_cases h : n ≥ 0
  · rw [if_pos h, decide_eq_true (show 0 ≤ n from h), Bool.true_and]
    congr 1
    exact decide_eq_decide.2 (by omega)
  · rw [if_neg h, decide_eq_false (show ¬ 0 ≤ n from h), Bool.false_and]
theorem rresidues_ev (l : List Int) (hl : l.length ≤ 1000000) : Ev (fun k => cohousingref22_Residues.f k l) (l.all isR) := by
  have h : ∀ d i : Nat, d = l.length - i → i ≤ l.length → Ev (fun k => cohousingref22_Residues.l0 k l (i : Int)) ((l.drop i).all isR) := by
    intro d
    induction d with
    | zero =>
      intro i hd hi
      obtain rfl : i = l.length := by omega
      rw [List.drop_length, List.all_nil]
      exact Ev.step (fun k => by rw [cohousingref22_Residues.l0]) (evNeg (by omega) (Ev.now _))
    | succ d ih =>
      intro i hd hi
      have hlt : i < l.length := by omega
      have h2 := ih (i + 1) (by omega) (by omega)
      rw [rd_drop_cons hlt, List.all_cons]
      refine Ev.step (fun k => by rw [cohousingref22_Residues.l0]) (evPos (by omega) (evPos (by omega) (evSome (rres_f _) ?_)))
      cases hr : isR (rd l (i : Int)) with
      | true => rw [Bool.true_and]; refine evPos rfl ?_; rw [wrap_succ hlt (by omega)]; exact h2
      | false => rw [Bool.false_and]; exact evNeg (by decide) (Ev.now _)
  exact h l.length 0 rfl (Nat.zero_le _)
theorem rmul {a b : Int} (ha : rs a) (hb : rs b) : Int.tmod (wrap64 (a * b)) 1073741789 = a * b % 1073741789 := by
  have h := mul_rs ha hb
  rw [wrap_ok (by omega), tmod_pos h.1]
theorem radd {a b : Int} (ha : rs a) (hb : rs b) : Int.tmod (wrap64 (a + b)) 1073741789 = (a + b) % 1073741789 := by
  unfold rs at ha hb
  rw [wrap_ok (by omega), tmod_pos (by omega)]
theorem rless_f {a b : Int} (ha : rs a) (hb : rs b) : cohousingref22_Less.f a b = some ((a - b) % 1073741789) := by
  unfold rs at ha hb
  unfold cohousingref22_Less.f
  rw [wrap_ok (x := a - b) (by omega), wrap_ok (by omega), tmod_pos (by omega), Int.add_emod_right]
theorem rpow_loop : ∀ n : Nat, ∀ a o : Int, n ≤ 1073741787 → rs a → rs o → ∃ r, Ev (fun k => cohousingref22_Power.l0 k a (n : Int) o) r ∧ rs r ∧ Cg 1073741789 r (o * a ^ n) := by
  intro n
  induction n using Nat.strongRecOn with
  | ind n ih =>
    intro a o hn ha ho
    by_cases h0 : n = 0
    · subst h0
      refine ⟨o, Ev.step (fun k => by rw [cohousingref22_Power.l0]) (evNeg (by decide) (Ev.now _)), ho, ?_⟩
      rw [Int.pow_zero, Int.mul_one]; exact Cg.refl _ _
    · have hdiv : wrap64 (Int.tdiv (n : Int) 2) = ((n / 2 : Nat) : Int) := by
        rw [Int.tdiv_eq_ediv_of_nonneg (by omega), wrap_ok (by omega)]; omega
      have hmod : Int.tmod (n : Int) 2 = ((n % 2 : Nat) : Int) := by rw [tmod_pos (by omega)]; omega
      have hsq := rs_mod (a * a)
      by_cases h1 : n % 2 = 1
      · obtain ⟨r, e, h2, h3⟩ := ih (n / 2) (by omega) (a * a % 1073741789) (o * a % 1073741789) (by omega) hsq (rs_mod _)
        refine ⟨r, Ev.step (fun k => by rw [cohousingref22_Power.l0]) ?_, h2, h3.trans ?_⟩
        · refine evPos (by omega) (evPos (by rw [hmod, h1]; rfl) ?_)
          rw [hdiv, rmul ha ha, rmul ho ha]; exact e
        · refine ((cgm (o * a)).mul ((cgm (a * a)).pow (n / 2))).trans (Cg.of_eq ?_)
          have hn2 : n = 2 * (n / 2) + 1 := by omega
          generalize n / 2 = m at *
          subst hn2
          rw [Int.pow_succ, Int.pow_mul, Int.mul_assoc, Int.mul_comm a, show a ^ 2 = a * a by rw [Int.pow_succ, Int.pow_succ, Int.pow_zero, Int.one_mul]]
      · obtain ⟨r, e, h2, h3⟩ := ih (n / 2) (by omega) (a * a % 1073741789) o (by omega) hsq ho
        refine ⟨r, Ev.step (fun k => by rw [cohousingref22_Power.l0]) ?_, h2, h3.trans ?_⟩
        · refine evPos (by omega) (evNeg (by rw [hmod]; omega) ?_)
          rw [hdiv, rmul ha ha]; exact e
        · refine ((Cg.refl _ o).mul ((cgm (a * a)).pow (n / 2))).trans (Cg.of_eq ?_)
          have hn2 : n = 2 * (n / 2) := by omega
          generalize n / 2 = m at *
          subst hn2
          rw [Int.pow_mul, show a ^ 2 = a * a by rw [Int.pow_succ, Int.pow_succ, Int.pow_zero, Int.one_mul]]
theorem rover_ev {a b : Int} (ha : rs a) (hb : rs b) : Ev (fun k => cohousingref22_Over.f k a b) (a * invF b % 1073741789) := by
  obtain ⟨r, e, h2, h3⟩ := rpow_loop 1073741787 b 1 (Nat.le_refl _) hb ⟨by decide, by decide⟩
  rw [Int.one_mul] at h3
  have hr : r = invF b := by unfold invF; exact rs_cg h2 h3
  refine Ev.bind e ?_
  rw [rmul ha h2, hr]
  exact Ev.now _
/-! ### At -/
theorem rat_loop {l : List Int} {x : Int} (hx : rs x) (hl : ∀ y ∈ l, rs y) (hn : l.length ≤ 1000000) : ∀ (i : Nat) (o : Int), i ≤ l.length → rs o → Cg 1073741789 o (ev (l.drop i) x) → Ev (fun k => cohousingref22_At.l0 k l x o ((i : Int) - 1)) (atF l x)
  | 0, o, _, ho, hc => by
    refine Ev.step (fun k => by rw [cohousingref22_At.l0]) (evNeg (by omega) ?_)
    have : o = atF l x := by unfold atF; exact rs_cg ho hc
    rw [this]; exact Ev.now _
  | i + 1, o, hi, ho, hc => by
    have hlt : i < l.length := by omega
    have hr : rs (rd l (i : Int)) := hl _ (rd_mem hlt)
    have hm := mul_rs ho hx
    have e1 : (((i + 1 : Nat) : Int) - 1) = (i : Int) := by omega
    have e2 : Int.tmod (wrap64 (wrap64 (o * x) + rd l (i : Int))) 1073741789 = (o * x + rd l (i : Int)) % 1073741789 := by
      unfold rs at hr
      rw [wrap_ok (x := o * x) (by omega), wrap_ok (by omega), tmod_pos (by omega)]
    have ih := rat_loop hx hl hn i ((o * x + rd l (i : Int)) % 1073741789) (by omega) (rs_mod _) (by
      refine (cgm _).trans ?_
      rw [rd_drop_cons hlt]
      show Cg 1073741789 (o * x + rd l (i : Int)) (rd l (i : Int) + x * ev (l.drop (i + 1)) x)
      rw [Int.add_comm (o * x), Int.mul_comm o]
      exact (Cg.refl _ _).add ((Cg.refl _ x).mul hc))
    rw [e1]
    refine Ev.step (fun k => by rw [cohousingref22_At.l0]) (evPos (by omega) (evPos (by omega) (evPos (by omega) ?_)))
    rw [e2, wrap_ok (x := (i : Int) - 1) (by omega)]
    exact ih
theorem rat_ev {l : List Int} {x : Int} (hx : rs x) (hl : ∀ y ∈ l, rs y) (hn : l.length ≤ 1000000) : Ev (fun k => cohousingref22_At.f k l x) (atF l x) := by
  have h := rat_loop hx hl hn l.length 0 (Nat.le_refl _) ⟨by decide, by decide⟩ (by rw [List.drop_length]; exact Cg.refl _ _)
  unfold cohousingref22_At.f
  rw [wrap_ok (by omega)]
  exact h
/-! ### Through -/
theorem rthr1_ev {l : List S47} {x : Int} (hx : rs x) (hl : okShs l) (hn : l.length ≤ 1000) (i : Nat) (hi : i < l.length) (o r : Int) (ho : rs o)
    (hk : Ev (fun k => cohousingref22_Through.l0 k l x ((o + partF l x i) % 1073741789) ((i + 1 : Nat) : Int)) r) :
    ∀ d m : Nat, d = l.length - m → m ≤ l.length → Ev (fun k => cohousingref22_Through.l1 k l x o (i : Int) (mulF (difL l x i m) (rd_T47 l (i : Int)).f1) (mulF (difL l (rd_T47 l (i : Int)).f0 i m) 1) (m : Int)) r := by
  have hli := hl _ (rd47_mem hi)
  intro d
  induction d with
  | zero =>
    intro m hd hm
    obtain rfl : m = l.length := by omega
    have h1 := rs_mulF (difL l x i l.length) hli.2
    have h2 := rs_mulF (difL l (rd_T47 l (i : Int)).f0 i l.length) (show rs 1 from ⟨by decide, by decide⟩)
    refine Ev.step (fun k => by rw [cohousingref22_Through.l1]) (evNeg (by omega) ?_)
    refine Ev.bind (rover_ev h1 h2) ?_
    rw [wrap_succ hi (by omega)]
    have e : mulF (difL l x i l.length) (rd_T47 l (i : Int)).f1 * invF (mulF (difL l (rd_T47 l (i : Int)).f0 i l.length) 1) % 1073741789 = partF l x i := rfl
    rw [e, radd ho (by unfold partF; exact rs_mod _)]
    exact hk
  | succ d ih =>
    intro m hd hm
    have hlt : m < l.length := by omega
    have hlm := hl _ (rd47_mem hlt)
    have h2 := ih (m + 1) (by omega) (by omega)
    refine Ev.step (fun k => by rw [cohousingref22_Through.l1]) (evPos (by omega) ?_)
    rw [wrap_succ hlt (by omega)]
    by_cases e : m = i
    · subst e
      refine evPos rfl ?_
      rw [difL_same _ hi, difL_same _ hi] at h2
      exact h2
    · refine evNeg (by omega) (evPos (by omega) (evSome (rless_f hx hlm.1) (evPos (by omega) (evPos (by omega) (evSome (rless_f hli.1 hlm.1) ?_)))))
      rw [difL_other _ hlt e, difL_other _ hlt e, mulF_snoc, mulF_snoc] at h2
      rw [rmul (rs_mulF _ hli.2) (rs_mod _), rmul (rs_mulF _ ⟨by decide, by decide⟩) (rs_mod _)]
      exact h2
theorem rthrough_ev {l : List S47} {x : Int} (hx : rs x) (hl : okShs l) (hn : l.length ≤ 1000) : Ev (fun k => cohousingref22_Through.f k l x) (thrF l x) := by
  have h : ∀ d i : Nat, d = l.length - i → i ≤ l.length → Ev (fun k => cohousingref22_Through.l0 k l x (addF (partsF l x i) 0) (i : Int)) (thrF l x) := by
    intro d
    induction d with
    | zero =>
      intro i hd hi
      obtain rfl : i = l.length := by omega
      refine Ev.step (fun k => by rw [cohousingref22_Through.l0]) (evNeg (by omega) ?_)
      rw [thrF]; exact Ev.now _
    | succ d ih =>
      intro i hd hi
      have hlt : i < l.length := by omega
      have h2 := ih (i + 1) (by omega) (by omega)
      rw [partsF_succ, addF_snoc] at h2
      refine Ev.step (fun k => by rw [cohousingref22_Through.l0]) (evPos (by omega) (evPos (by omega) ?_))
      have h3 := rthr1_ev hx hl hn i hlt (addF (partsF l x i) 0) (thrF l x) (rs_addF _ ⟨by decide, by decide⟩) h2 l.length 0 rfl (Nat.zero_le _)
      rw [difL_zero, difL_zero] at h3
      exact h3
  exact h l.length 0 rfl (Nat.zero_le _)
/-! ### Recover -/
theorem rrec1_ev {l : List S47} (hn : l.length ≤ 1000) (i : Nat) (hi : i < l.length) (r : Int × Int) (hbad : (rd_T47 l (i : Int)).f0 ∈ ptsL (l.take i) → r = (0, 1))
    (hk : (rd_T47 l (i : Int)).f0 ∉ ptsL (l.take i) → Ev (fun k => cohousingref22_Recover.l0 k l ((i + 1 : Nat) : Int)) r) :
    ∀ d m : Nat, d = i - m → m ≤ i → (rd_T47 l (i : Int)).f0 ∉ ptsL (l.take m) → Ev (fun k => cohousingref22_Recover.l1 k l (i : Int) (m : Int)) r := by
  intro d
  induction d with
  | zero =>
    intro m hd hm hnm
    obtain rfl : m = i := by omega
    refine Ev.step (fun k => by rw [cohousingref22_Recover.l1]) (evNeg (by omega) ?_)
    rw [wrap_succ hi (by omega)]
    exact hk hnm
  | succ d ih =>
    intro m hd hm hnm
    have hlt : m < l.length := by omega
    refine Ev.step (fun k => by rw [cohousingref22_Recover.l1]) (evPos (by omega) (evPos (by omega) (evPos (by omega) (evPos (by omega) (evPos (by omega) ?_)))))
    by_cases e : (rd_T47 l (m : Int)).f0 = (rd_T47 l (i : Int)).f0
    · refine evPos e ?_
      rw [hbad (by
        unfold ptsL
        refine List.mem_map.2 ⟨_, ?_, e⟩
        rw [rd47_get hlt]
        exact List.mem_take_iff_getElem.2 ⟨m, by omega, rfl⟩)]
      exact Ev.now _
    · refine evNeg e ?_
      rw [wrap_succ hlt (by omega)]
      refine ih (m + 1) (by omega) (by omega) ?_
      rw [ptsL_snoc hlt, List.mem_append, List.mem_singleton]
      exact fun h => h.elim hnm fun h => e h.symm
theorem rrecover_ev {l : List S47} (hn : l.length ≤ 1000) : Ev (fun k => cohousingref22_Recover.f k l) (recF l) := by
  refine evSome (rin_f _ _ _) ?_
  cases hb : inB (l.length : Int) 1 16 with
  | false =>
    have e : recF l = (0, 1) := by unfold recF; rw [if_neg (by rw [hb]; simp)]
    rw [e]; exact evNeg (by decide) (Ev.now _)
  | true =>
    refine evPos rfl ?_
    have bad : sharesB l = false → recF l = (0, 1) := fun h => by unfold recF; rw [if_neg (by rw [h]; simp)]
    have h : ∀ d i : Nat, d = l.length - i → i ≤ l.length → (l.take i).all okS = true → (ptsL (l.take i)).Nodup → Ev (fun k => cohousingref22_Recover.l0 k l (i : Int)) (recF l) := by
      intro d
      induction d with
      | zero =>
        intro i hd hi ha hnd
        obtain rfl : i = l.length := by omega
        rw [List.take_length] at ha hnd
        have e : recF l = (thrF l 0, 0) := by unfold recF; rw [if_pos ⟨hb, by unfold sharesB; rw [ha, decide_eq_true hnd]; rfl⟩]
        rw [e]
        refine Ev.step (fun k => by rw [cohousingref22_Recover.l0]) (evNeg (by omega) ?_)
        exact Ev.bind (rthrough_ev ⟨by decide, by decide⟩ (okShs_of ha) hn) (Ev.now _)
      | succ d ih =>
        intro i hd hi ha hnd
        have hlt : i < l.length := by omega
        refine Ev.step (fun k => by rw [cohousingref22_Recover.l0]) (evPos (by omega) (evPos (by omega) (evSome (rin_f _ _ _) ?_)))
        cases h1 : inB (rd_T47 l (i : Int)).f0 1 16 with
        | false =>
          rw [bad (shares_bad hlt (by unfold okS; rw [h1]; rfl))]
          exact evNeg (by decide) (Ev.step (fun k => by rw [cohousingref22_Recover.j1]) (evPos rfl (Ev.now _)))
        | true =>
          refine evPos rfl (evSome (rres_f _) ?_)
          cases h2 : isR (rd_T47 l (i : Int)).f1 with
          | false =>
            rw [bad (shares_bad hlt (by unfold okS; rw [h1, h2]; rfl))]
            exact Ev.step (fun k => by rw [cohousingref22_Recover.j1]) (evPos (show (!false) = true from rfl) (Ev.now _))
          | true =>
            refine Ev.step (fun k => by rw [cohousingref22_Recover.j1]) (evNeg (by decide) ?_)
            refine rrec1_ev hn i hlt _ (fun h => bad (shares_twice hlt h)) (fun hnm => ih (i + 1) (by omega) (by omega) ?_ ?_) i 0 rfl (Nat.zero_le _) (by rw [List.take_zero]; exact List.not_mem_nil)
            · rw [List.take_succ_eq_append_getElem hlt, List.all_append, ha, Bool.true_and, List.all_cons, List.all_nil, ← rd47_get hlt]
              unfold okS
              rw [h1, h2]; rfl
            · rw [ptsL_snoc hlt, List.nodup_append]
              refine ⟨hnd, List.pairwise_singleton _ _, fun a ha2 b hb2 => ?_⟩
              rw [List.mem_singleton] at hb2
              subst hb2
              exact fun e => hnm (e ▸ ha2)
    exact h l.length 0 rfl (Nat.zero_le _) rfl List.nodup_nil
/-! ### Sum -/
theorem rdec_ev : ∀ n : Nat, (n : Int) ≤ 9223372036854775807 → Ev (fun k => cohousingref06_Decimal.f k (n : Int)) (⟨(Lib.decDigits n).toArray⟩ : ByteArray) := by
  intro n
  induction n using Nat.strongRecOn with
  | ind n ih =>
    intro hn
    have hstr : ∀ d : Nat, d < 10 → strOfNums [wrap64 (48 + (d : Int)) % 256] = ⟨[UInt8.ofNat (48 + d)].toArray⟩ := by
      intro d hd
      have e : wrap64 (48 + (d : Int)) % 256 = ((48 + d : Nat) : Int) := by rw [wrap_ok (by omega)]; omega
      rw [e]
      unfold strOfNums
      rw [List.map_cons, List.map_nil, Int.toNat_natCast]
    by_cases h : n < 10
    · refine Ev.step (fun k => by rw [cohousingref06_Decimal.f]) (evNeg (by omega) (evPos (by omega) ?_))
      rw [hstr n h]
      rw [Lib.decDigits, dif_pos h]
      exact Ev.now _
    · have e1 : wrap64 (Int.tdiv (n : Int) 10) = ((n / 10 : Nat) : Int) := by
        rw [Int.tdiv_eq_ediv_of_nonneg (by omega), wrap_ok (by omega)]; omega
      have e2 : Int.tmod (n : Int) 10 = ((n % 10 : Nat) : Int) := by rw [tmod_pos (by omega)]; omega
      refine Ev.step (fun k => by rw [cohousingref06_Decimal.f]) (evNeg (by omega) (evNeg (by omega) ?_))
      rw [e1]
      refine Ev.bind (ih (n / 10) (by omega) (by omega)) ?_
      rw [e2]
      refine evSome rfl ?_
      rw [hstr (n % 10) (by omega)]
      have hlen : (Lib.decDigits (n / 10)).length ≤ 21 := by
        have := Lib.itoa_length_le ((n / 10 : Nat) : Int) (by omega) (by omega)
        unfold Lib.itoa at this
        rw [if_neg (by omega), Int.toNat_natCast] at this
        exact this
      refine evPos ?_ ?_
      · show (Lib.decDigits (n / 10)).toArray.size + [UInt8.ofNat (48 + n % 10)].toArray.size ≤ 9223372036854775807
        simp; omega
      · have e3 : (⟨(Lib.decDigits n).toArray⟩ : ByteArray) = ⟨(Lib.decDigits (n / 10)).toArray⟩ ++ ⟨[UInt8.ofNat (48 + n % 10)].toArray⟩ := by
          rw [Lib.decDigits, dif_neg h]
          apply ByteArray.ext
          simp [ByteArray.data_append]
        rw [e3]; exact Ev.now _
theorem rbytes {n : Int} (h : 0 ≤ n) : bytesOf (⟨(Lib.decDigits n.toNat).toArray⟩ : ByteArray) = bytesI n := by
  unfold bytesOf bytesI Lib.itoa
  rw [if_neg (by omega)]
theorem rsum06_ev (l : List Int) (hm : l.length ≤ 1000000) : Ev (fun k => cohousingref06_Sum.f k l) (sumB l) := by
  have h : ∀ d i : Nat, d = l.length - i → i ≤ l.length → Ev (fun k => cohousingref06_Sum.l0 k l (sumB (l.take i)) (i : Int)) (sumB l) := by
    intro d
    induction d with
    | zero =>
      intro i hd hi
      obtain rfl : i = l.length := by omega
      rw [List.take_length]
      exact Ev.step (fun k => by rw [cohousingref06_Sum.l0]) (evNeg (by omega) (Ev.now _))
    | succ d ih =>
      intro i hd hi
      have hlt : i < l.length := by omega
      have h2 := ih (i + 1) (by omega) (by omega)
      have e : sumB (l.take (i + 1)) = stepS (sumB (l.take i)) (rd l (i : Int)) := by
        rw [rd_take_succ hlt]; unfold sumB; rw [List.foldl_append]; rfl
      rw [e] at h2
      refine Ev.step (fun k => by rw [cohousingref06_Sum.l0]) (evPos (by omega) (evPos (by omega) ?_))
      rw [wrap_succ hlt (by omega)]
      exact h2
  exact h l.length 0 rfl (Nat.zero_le _)
theorem rints_ev (l : List Int) (hn : l.length ≤ 1000) (h0 : ∀ x ∈ l, 0 ≤ x ∧ x ≤ 9223372036854775807) : Ev (fun k => cohousingref06_Ints.f k l) (digF l) := by
  have hlen : ∀ i, (digB (l.take i)).length ≤ 22000 := fun i => by
    have h := digB_len (l := l.take i) fun x hx => by have := h0 x (List.mem_of_mem_take hx); omega
    have : (l.take i).length ≤ 1000 := by rw [List.length_take]; omega
    omega
  have h : ∀ d i : Nat, d = l.length - i → i ≤ l.length → Ev (fun k => cohousingref06_Ints.l0 k l (digB (l.take i)) (i : Int)) (digF l) := by
    intro d
    induction d with
    | zero =>
      intro i hd hi
      obtain rfl : i = l.length := by omega
      have h2 := hlen l.length
      rw [List.take_length] at h2 ⊢
      refine Ev.step (fun k => by rw [cohousingref06_Ints.l0]) (evNeg (by omega) ?_)
      exact Ev.bind (rsum06_ev _ (by omega)) (Ev.now _)
    | succ d ih =>
      intro i hd hi
      have hlt : i < l.length := by omega
      have h2 := ih (i + 1) (by omega) (by omega)
      have hx := h0 _ (rd_mem hlt)
      have h3 := hlen (i + 1)
      rw [rd_take_succ hlt, digB_snoc] at h2 h3
      have e := rdec_ev (rd l (i : Int)).toNat (by omega)
      rw [Int.toNat_of_nonneg hx.1] at e
      have hb := rbytes hx.1
      have hsz : ((⟨(Lib.decDigits (rd l (i : Int)).toNat).toArray⟩ : ByteArray)).size = (bytesI (rd l (i : Int))).length := by
        rw [← hb]; unfold bytesOf; rw [List.length_map]; rfl
      simp only [List.length_append] at h3
      refine Ev.step (fun k => by rw [cohousingref06_Ints.l0]) (evPos (by omega) (evPos (by omega) (Ev.bind e ?_)))
      refine evPos (by rw [hsz]; omega) (evSome rfl ?_)
      rw [hb]
      refine evPos (by rw [List.length_append]; omega) ?_
      rw [wrap_succ hlt (by omega)]
      exact h2
  exact h l.length 0 rfl (Nat.zero_le _)
theorem rsum_ev {a b c : Int} (ha : 0 ≤ a ∧ a ≤ 9223372036854775807) (hb : 0 ≤ b ∧ b ≤ 9223372036854775807) (hc : 0 ≤ c ∧ c ≤ 9223372036854775807) : Ev (fun k => cohousingref22_Sum.f k a b c) (sumF a b c) := by
  refine Ev.bind (rints_ev [a, b, c] (by show (3 : Nat) ≤ 1000; decide) ?_) (Ev.now _)
  intro x hx
  simp only [List.mem_cons, List.not_mem_nil, or_false] at hx
  rcases hx with rfl | rfl | rfl <;> assumption
end Go.Proofs.YtfkeelccnomjkaaDoor.P
