/- Plain facts on histories: their readings are clean, but for gaps that are too long; the parts of their days. -/
import Derived.Test.YtknfkibnocfjiaaDoorGMadeNo
import Derived.Test.YtknfkibnocfjiaaDoorMPure3
namespace Go.Proofs.YtknfkibnocfjiaaDoor.P
open Go.RowKit Go.Proofs.YtknfkibnocfjiaaDoorW.PrintWords Go.Proofs.YtknfkibnocfjiaaDoorW.PrintMore Go.Proofs.YtknfkibnocfjiaaDoor.M
set_option linter.unusedVariables false
set_option linter.unusedSimpArgs false

/-- The last day ahead of k with a reading. -/
def lastI (m : S25) (rd : List Bool) : Nat → Option Nat
  | 0 => none
  | k + 1 => if rAt m rd k = true then some k else lastI m rd k
def headI (m : S25) (rd : List Bool) (k : Nat) : Nat := (lastI m rd k).getD 0
def mkPart (m : S25) (st : Int) (sh : List Int) (a : Option Nat) (k : Nat) : Part :=
  match a with
  | none => ⟨m.f4.f0, m.f4.f0 + k, 0, false⟩
  | some j => ⟨m.f4.f0 + j, m.f4.f0 + k, atS m st sh k - atS m st sh j, true⟩
/-- The parts that end ahead of day k. -/
def pU (m : S25) (st : Int) (sh : List Int) (rd : List Bool) : Nat → List Part
  | 0 => []
  | k + 1 => if rAt m rd k = true then pU m st sh rd k ++ [mkPart m st sh (lastI m rd k) k] else pU m st sh rd k
/-- All parts of n days. -/
def pAll (m : S25) (st : Int) (sh : List Int) (rd : List Bool) (n : Nat) : List Part := pU m st sh rd (n + 1) ++ [⟨m.f4.f0 + headI m rd (n + 1), m.f4.f0 + n, 0, false⟩]

theorem lastI_lt (m : S25) (rd : List Bool) : ∀ k j, lastI m rd k = some j → j < k ∧ rAt m rd j = true
  | 0, j, h => by simp [lastI] at h
  | k + 1, j, h => by
    unfold lastI at h
    by_cases hr : rAt m rd k = true
    · rw [if_pos hr] at h; cases h; exact ⟨Nat.lt_succ_self _, hr⟩
    · rw [if_neg hr] at h
      have := lastI_lt m rd k j h
      exact ⟨by omega, this.2⟩
theorem headI_le (m : S25) (rd : List Bool) (k : Nat) : headI m rd k ≤ k := by
  unfold headI
  cases h : lastI m rd k with
  | none => exact Nat.zero_le _
  | some j => exact Nat.le_of_lt (lastI_lt m rd k j h).1
/-- The last reading of the row. -/
theorem rowR_last (m : S25) (st : Int) (sh : List Int) (rd : List Bool) : ∀ k,
    match lastI m rd k with
    | none => rowR m st sh rd k = []
    | some j => ∃ pre, rowR m st sh rd k = pre ++ [rdAt m st sh j]
  | 0 => rfl
  | k + 1 => by
    have ih := rowR_last m st sh rd k
    unfold lastI rowR
    by_cases hr : rAt m rd k = true
    · rw [if_pos hr, if_pos hr]
      exact ⟨_, rfl⟩
    · rw [if_neg hr, if_neg hr, List.append_nil]
      exact ih
theorem mem_rowR {m : S25} {st : Int} {sh : List Int} {rd : List Bool} : ∀ {k : Nat} {x : S43}, x ∈ rowR m st sh rd k → ∃ j, j < k ∧ rAt m rd j = true ∧ x = rdAt m st sh j
  | 0, x, h => by simp [rowR] at h
  | k + 1, x, h => by
    unfold rowR at h
    rcases List.mem_append.1 h with h | h
    · obtain ⟨j, h1, h2, h3⟩ := mem_rowR h
      exact ⟨j, by omega, h2, h3⟩
    · by_cases hr : rAt m rd k = true
      · rw [if_pos hr] at h
        exact ⟨k, by omega, hr, by simpa using h⟩
      · rw [if_neg hr] at h; simp at h
theorem rowR_rise (m : S25) (st : Int) (sh : List Int) (rd : List Bool) : ∀ k, (rowR m st sh rd k).Pairwise (fun x y => x.f1 < y.f1)
  | 0 => List.Pairwise.nil
  | k + 1 => by
    unfold rowR
    rw [List.pairwise_append]
    refine ⟨rowR_rise m st sh rd k, ?_, fun x hx y hy => ?_⟩
    · by_cases hr : rAt m rd k = true
      · rw [if_pos hr]; exact List.pairwise_singleton _ _
      · rw [if_neg hr]; exact List.Pairwise.nil
    · obtain ⟨j, hj, _, rfl⟩ := mem_rowR hx
      by_cases hr : rAt m rd k = true
      · rw [if_pos hr] at hy
        obtain rfl : y = rdAt m st sh k := by simpa using hy
        show m.f4.f0 + (j : Int) < m.f4.f0 + (k : Int)
        omega
      · rw [if_neg hr] at hy; simp at hy
theorem putI_last : ∀ (l : List Int) (s : Int), (∀ y ∈ l, y < s) → putI l s = l ++ [s]
  | [], s, _ => rfl
  | a :: l, s, h => by
    have h1 := h a (by simp)
    unfold putI
    rw [if_neg (by omega), if_neg (by omega), putI_last l s (fun y hy => h y (by simp [hy]))]
    rfl
/-- A list of readings that all count, by rising days, is its own collection. -/
theorem colL_self (m : S25) (known : Int) (l : List S43) (hc : ∀ x ∈ l, countsB m known x = true) (hr : l.Pairwise (fun x y => x.f1 < y.f1)) : colL m known l = l := by
  have key : ∀ l : List S43, (∀ x ∈ l, countsB m known x = true) → l.Pairwise (fun x y => x.f1 < y.f1) → daysL m known l = l.map S43.f1 ∧ (∀ x ∈ l, colF m known l x.f1 = some x) ∧ (∀ d, (∀ x ∈ l, x.f1 ≠ d) → colF m known l d = none) := by
    intro l
    refine snoc_ind (p := fun l => (∀ x ∈ l, countsB m known x = true) → l.Pairwise (fun x y => x.f1 < y.f1) → daysL m known l = l.map S43.f1 ∧ (∀ x ∈ l, colF m known l x.f1 = some x) ∧ (∀ d, (∀ x ∈ l, x.f1 ≠ d) → colF m known l d = none)) (fun _ _ => ⟨rfl, fun x hx => (by simp at hx), fun d _ => rfl⟩) (fun l r ih hc hr => ?_) l
    rw [List.pairwise_append] at hr
    obtain ⟨h1, h2, h3⟩ := ih (fun x hx => hc x (by simp [hx])) hr.1
    have hcr : countsB m known r = true := hc r (by simp)
    have hlt : ∀ x ∈ l, x.f1 < r.f1 := fun x hx => hr.2.2 x hx r (by simp)
    have hno : colF m known l r.f1 = none := h3 r.f1 (fun x hx => by have := hlt x hx; omega)
    have hstep : ∀ d, colF m known (l ++ [r]) d = if d = r.f1 then some r else colF m known l d := fun d => by
      rw [colF_snoc]; unfold colStep
      rw [if_pos ⟨hcr, fun old ho => by rw [hno] at ho; cases ho⟩]
    refine ⟨?_, fun x hx => ?_, fun d hd => ?_⟩
    · rw [daysL_snoc]; unfold dayStep
      rw [if_pos hcr, h1, List.map_append, List.map_singleton]
      refine putI_last _ _ (fun y hy => ?_)
      obtain ⟨x, hx, rfl⟩ := List.mem_map.1 hy
      exact hlt x hx
    · rw [hstep]
      rcases List.mem_append.1 hx with hx | hx
      · rw [if_neg (by have := hlt x hx; omega)]; exact h2 x hx
      · obtain rfl : x = r := by simpa using hx
        rw [if_pos rfl]
    · rw [hstep, if_neg (fun e => hd r (by simp) e.symm)]
      exact h3 d (fun x hx => hd x (by simp [hx]))
  obtain ⟨h1, h2, _⟩ := key l hc hr
  unfold colL
  rw [h1, List.map_map]
  refine (List.map_congr_left (fun x hx => ?_)).trans (List.map_id _)
  show (colF m known l x.f1).getD z43 = x
  rw [h2 x hx]; rfl
theorem rd43_last {pre : List S43} {x : S43} {l : List S43} (h : l = pre ++ [x]) : rd_T43 l ((pre.length : Nat) : Int) = x := by
  subst h
  rw [rd43_get (by simp)]; simp
theorem rd43_pre {l pre suf : List S43} (h : l = pre ++ suf) {i : Nat} (hi : i < pre.length) : rd_T43 l (i : Int) = rd_T43 pre (i : Int) := by
  subst h
  rw [rd43_get (by simp; omega), rd43_get hi, List.getElem_append_left hi]
/-- What a history's meter is. -/
structure Hist (m : S25) (st : Int) (n : Nat) : Prop where
  v : validM m = true
  u : m.f4.f1 = m.f4.f0 + n
  s0 : 0 ≤ st ∧ st ≤ 65535
  n1 : 1 ≤ n ∧ n ≤ 30
theorem rowR_ok {m : S25} {st : Int} {n : Nat} (H : Hist m st n) (sh : List Int) (rd : List Bool) : readingsL (rowR m st sh rd (n + 1)) = true ∧ (∀ x ∈ rowR m st sh rd (n + 1), countsB m 0 x = true ∧ 0 ≤ x.f2 ∧ x.f2 < pow10 m.f1) := by
  have hb := validM_bd H.v
  have hp := pow10_bound (d := m.f1) (by omega) (by omega)
  have hl := rowR_len m st sh rd (n + 1)
  have hn := H.n1
  have hval : ∀ x ∈ rowR m st sh rd (n + 1), readingOk x = true ∧ countsB m 0 x = true ∧ 0 ≤ x.f2 ∧ x.f2 < pow10 m.f1 := by
    intro x hx
    obtain ⟨j, hj, hr, rfl⟩ := mem_rowR hx
    have hday : m.f4.f0 + (j : Int) ≤ 36524 := by
      unfold rAt at hr
      simp only [Bool.and_eq_true, decide_eq_true_eq] at hr
      exact hr.2
    have h1 := Int.emod_nonneg (atS m st sh j) (show pow10 m.f1 ≠ 0 by omega)
    have h2 := Int.emod_lt_of_pos (atS m st sh j) (show 0 < pow10 m.f1 by omega)
    have hu := H.u
    refine ⟨?_, ?_, h1, h2⟩
    · unfold readingOk inB rdAt
      simp only [Bool.and_eq_true, decide_eq_true_eq]
      omega
    · unfold countsB rdAt
      simp only [Bool.and_eq_true, decide_eq_true_eq, beq_self_eq_true, true_and]
      omega
  refine ⟨?_, fun x hx => (hval x hx).2⟩
  unfold readingsL
  rw [Bool.and_eq_true, decide_eq_true_eq, List.all_eq_true]
  exact ⟨by omega, fun x hx => (hval x hx).1⟩
/-- No two readings of a history are too far apart. -/
def Near (m : S25) (c : List S43) : Prop := ∀ i : Nat, i + 1 < c.length → gapF m c i < pow10 m.f1
theorem atS_mono {m : S25} (hm : 1 ≤ m.f2) (st : Int) (sh : List Int) {a b : Nat} (h : a ≤ b) : 0 ≤ atS m st sh b - atS m st sh a ∧ atS m st sh b - atS m st sh a ≤ m.f2 * ((b : Int) - a) := by
  induction b with
  | zero =>
    obtain rfl : a = 0 := by omega
    simp
  | succ b ih =>
    by_cases hab : a = b + 1
    · subst hab; simp
    · have := ih (by omega)
      have h1 := sAt_bd hm sh b
      simp only [atS]
      have e : m.f2 * (((b + 1 : Nat) : Int) - a) = m.f2 * ((b : Int) - a) + m.f2 := by
        rw [show ((b + 1 : Nat) : Int) - a = ((b : Int) - a) + 1 by omega, Int.mul_add, Int.mul_one]
      omega
/-- Between near readings a meter shows by how much it grew. -/
theorem shown_mod {p x y : Int} (hp : 0 < p) (h0 : 0 ≤ y - x) (h1 : y - x < p) : shownF p (x % p) (y % p) = y - x := by
  unfold shownF
  have e1 := Int.mul_ediv_add_emod x p
  have e2 := Int.mul_ediv_add_emod y p
  have b1 := Int.emod_nonneg x (show p ≠ 0 by omega)
  have b2 := Int.emod_lt_of_pos x hp
  have b3 := Int.emod_nonneg y (show p ≠ 0 by omega)
  have b4 := Int.emod_lt_of_pos y hp
  have hq : y / p - x / p = 0 ∨ y / p - x / p = 1 := by
    have h2 : p * (y / p - x / p) = (y - x) - (y % p - x % p) := by rw [Int.mul_sub]; omega
    have l1 : ¬ y / p - x / p ≤ -1 := fun h => by
      have := Int.mul_le_mul_of_nonneg_left h (show 0 ≤ p by omega)
      rw [show p * -1 = -p by omega] at this
      omega
    have l2 : ¬ 2 ≤ y / p - x / p := fun h => by
      have := Int.mul_le_mul_of_nonneg_left h (show 0 ≤ p by omega)
      rw [show p * 2 = 2 * p by omega] at this
      omega
    omega
  rcases hq with hq | hq
  · have e : p * (y / p) = p * (x / p) := by rw [show y / p = x / p by omega]
    rw [if_neg (by omega)]; omega
  · have e : p * (y / p) = p * (x / p) + p := by rw [show y / p = x / p + 1 by omega, Int.mul_add, Int.mul_one]
    rw [if_pos (by omega)]; omega
/-- Two neighbours of a history's readings. -/
theorem rowR_two {m : S25} {st : Int} {sh : List Int} {rd : List Bool} {k i : Nat} (hi : i + 1 < (rowR m st sh rd k).length) :
    ∃ a b : Nat, a < b ∧ rd_T43 (rowR m st sh rd k) (i : Int) = rdAt m st sh a ∧ rd_T43 (rowR m st sh rd k) ((i : Int) + 1) = rdAt m st sh b := by
  obtain ⟨a, _, _, ha⟩ := mem_rowR (mem_rd (c := rowR m st sh rd k) (i := i) (by omega))
  obtain ⟨b, _, _, hb⟩ := mem_rowR (mem_rd (c := rowR m st sh rd k) (i := i + 1) hi)
  have h := rise_rd (rowR_rise m st sh rd k) (i := i) (j := i + 1) (by omega) hi
  rw [ha, hb] at h
  refine ⟨a, b, ?_, ha, by rw [← hb]; rfl⟩
  have : m.f4.f0 + (a : Int) < m.f4.f0 + (b : Int) := h
  omega
theorem hist_flow {m : S25} {st : Int} {n : Nat} (H : Hist m st n) {sh : List Int} {rd : List Bool} {k i : Nat} (hi : i + 1 < (rowR m st sh rd k).length) (hg : gapF m (rowR m st sh rd k) i < pow10 m.f1) :
    shownF (pow10 m.f1) (rd_T43 (rowR m st sh rd k) (i : Int)).f2 (rd_T43 (rowR m st sh rd k) ((i : Int) + 1)).f2 ≤ gapF m (rowR m st sh rd k) i := by
  obtain ⟨a, b, hab, ha, hb⟩ := rowR_two hi
  have hbd := validM_bd H.v
  have hp := pow10_bound (d := m.f1) (by omega) (by omega)
  have hm := atS_mono (m := m) (by omega) st sh (Nat.le_of_lt hab)
  have e : gapF m (rowR m st sh rd k) i = m.f2 * ((b : Int) - a) := by
    unfold gapF
    rw [ha, hb]
    show m.f2 * (m.f4.f0 + (b : Int) - (m.f4.f0 + (a : Int))) = _
    rw [show m.f4.f0 + (b : Int) - (m.f4.f0 + (a : Int)) = (b : Int) - a by omega]
  rw [e] at hg ⊢
  rw [ha, hb]
  show shownF (pow10 m.f1) (atS m st sh a % pow10 m.f1) (atS m st sh b % pow10 m.f1) ≤ _
  rw [shown_mod (by omega) hm.1 (by omega)]
  exact hm.2
theorem hist_clean {m : S25} {st : Int} {n : Nat} (H : Hist m st n) (sh : List Int) (rd : List Bool) :
    (Near m (rowR m st sh rd (n + 1)) → cleanL m (rowR m st sh rd (n + 1)) 0 = (rowR m st sh rd (n + 1), 0)) ∧ (¬ Near m (rowR m st sh rd (n + 1)) → cleanL m (rowR m st sh rd (n + 1)) 0 = ([], 3)) := by
  have hok := rowR_ok H sh rd
  have hcol := colL_self m 0 (rowR m st sh rd (n + 1)) (fun x hx => (hok.2 x hx).1) (rowR_rise m st sh rd (n + 1))
  have hval : ¬ (((rowR m st sh rd (n + 1)).any fun r => decide (pow10 m.f1 ≤ r.f2)) = true) := by
    rw [List.any_eq_true]
    rintro ⟨x, hx, h⟩
    have h1 := of_decide_eq_true h
    have := (hok.2 x hx).2.2
    omega
  have hif : (validM m && readingsL (rowR m st sh rd (n + 1)) && inB 0 0 36524) = true := by rw [H.v, hok.1]; rfl
  unfold cleanL
  rw [if_pos hif, hcol, if_neg hval]
  constructor
  · intro hn
    rw [if_neg, if_neg]
    · rw [List.any_eq_true]
      rintro ⟨i, hi, h⟩
      have hi' : i + 1 < (rowR m st sh rd (n + 1)).length := by have := List.mem_range.1 hi; omega
      have h1 := of_decide_eq_true h
      have := hist_flow H hi' (hn i hi')
      omega
    · rw [List.any_eq_true]
      rintro ⟨i, hi, h⟩
      have hi' : i + 1 < (rowR m st sh rd (n + 1)).length := by have := List.mem_range.1 hi; omega
      have h1 := of_decide_eq_true h
      have := hn i hi'
      omega
  · intro hn
    rw [if_pos]
    rw [List.any_eq_true]
    refine Classical.byContradiction fun hno => hn fun i hi => ?_
    refine Classical.byContradiction fun hge => hno ⟨i, List.mem_range.2 (by omega), decide_eq_true (by omega)⟩
/-- The parts of a history's days. -/
theorem uptoP_hist {m : S25} {st : Int} {n : Nat} (H : Hist m st n) (sh : List Int) (rd : List Bool) (hn : Near m (rowR m st sh rd (n + 1))) : ∀ k : Nat, k ≤ n + 1 →
    uptoP m (rowR m st sh rd (n + 1)) (rowR m st sh rd k).length = pU m st sh rd k ∧ ∃ suf, rowR m st sh rd (n + 1) = rowR m st sh rd k ++ suf := by
  have hpre : ∀ d k : Nat, k + d = n + 1 → ∃ suf, rowR m st sh rd (n + 1) = rowR m st sh rd k ++ suf := by
    intro d
    induction d with
    | zero => intro k hk; exact ⟨[], by rw [List.append_nil, show n + 1 = k by omega]⟩
    | succ d ih =>
      intro k hk
      obtain ⟨suf, h⟩ := ih (k + 1) (by omega)
      refine ⟨(if rAt m rd k = true then [rdAt m st sh k] else []) ++ suf, ?_⟩
      rw [h, ← List.append_assoc]; rfl
  intro k
  induction k with
  | zero => intro hk; exact ⟨rfl, _, rfl⟩
  | succ k ih =>
    intro hk
    obtain ⟨ih1, suf0, hs0⟩ := ih (by omega)
    refine ⟨?_, hpre (n + 1 - (k + 1)) (k + 1) (by omega)⟩
    obtain ⟨suf, hs⟩ := hpre (n + 1 - (k + 1)) (k + 1) (by omega)
    have hrow : rowR m st sh rd (k + 1) = rowR m st sh rd k ++ if rAt m rd k = true then [rdAt m st sh k] else [] := rfl
    by_cases hr : rAt m rd k = true
    · rw [if_pos hr] at hrow
      have hlen : (rowR m st sh rd (k + 1)).length = (rowR m st sh rd k).length + 1 := by rw [hrow]; simp
      rw [hlen, uptoP_succ, ih1]
      show _ = if rAt m rd k = true then _ else _
      rw [if_pos hr]
      congr 2
      have hfull : rowR m st sh rd (n + 1) = rowR m st sh rd k ++ ([rdAt m st sh k] ++ suf) := by rw [hs, hrow, List.append_assoc]
      have hk2 : rd_T43 (rowR m st sh rd (n + 1)) (((rowR m st sh rd k).length : Nat) : Int) = rdAt m st sh k := by
        rw [hfull, rd43_get (by simp)]; simp
      have hlast := rowR_last m st sh rd k
      cases hl : lastI m rd k with
      | none =>
        rw [hl] at hlast
        simp only at hlast
        have h0 : (rowR m st sh rd k).length = 0 := by rw [hlast]; rfl
        rw [h0] at hk2 ⊢
        unfold partAt mkPart
        rw [hk2]; rfl
      | some j =>
        rw [hl] at hlast
        obtain ⟨pre, hpr⟩ := hlast
        have hjk := lastI_lt m rd k j hl
        have h1 : (rowR m st sh rd k).length = pre.length + 1 := by rw [hpr]; simp
        rw [h1] at hk2 ⊢
        have hj2 : rd_T43 (rowR m st sh rd (n + 1)) ((pre.length : Nat) : Int) = rdAt m st sh j := by
          rw [hfull, hpr, rd43_get (by simp)]; simp
        have hbd := validM_bd H.v
        have hp := pow10_bound (d := m.f1) (by omega) (by omega)
        have hm := atS_mono (m := m) (by omega) st sh (Nat.le_of_lt hjk.1)
        have hg := hn pre.length (by rw [hfull]; simp; omega)
        have hgap : gapF m (rowR m st sh rd (n + 1)) pre.length = m.f2 * ((k : Int) - j) := by
          unfold gapF
          have hk3 : rd_T43 (rowR m st sh rd (n + 1)) ((pre.length : Int) + 1) = rdAt m st sh k := hk2
          rw [hj2, hk3]
          show m.f2 * (m.f4.f0 + (k : Int) - (m.f4.f0 + (j : Int))) = _
          rw [show m.f4.f0 + (k : Int) - (m.f4.f0 + (j : Int)) = (k : Int) - j by omega]
        rw [hgap] at hg
        show Part.mk _ _ _ _ = _
        rw [hj2, hk2]
        unfold mkPart
        show Part.mk (m.f4.f0 + (j : Int)) (m.f4.f0 + (k : Int)) (shownF (pow10 m.f1) (atS m st sh j % pow10 m.f1) (atS m st sh k % pow10 m.f1)) true = _
        rw [shown_mod (by omega) hm.1 (by omega)]
    · rw [if_neg hr, List.append_nil] at hrow
      rw [hrow, ih1]
      show _ = if rAt m rd k = true then _ else _
      rw [if_neg hr]
theorem parts_hist {m : S25} {st : Int} {n : Nat} (H : Hist m st n) (sh : List Int) (rd : List Bool) (hn : Near m (rowR m st sh rd (n + 1))) : partsL m (rowR m st sh rd (n + 1)) = pAll m st sh rd n := by
  unfold partsL pAll
  rw [(uptoP_hist H sh rd hn (n + 1) (Nat.le_refl _)).1]
  congr 2
  have hlast := rowR_last m st sh rd (n + 1)
  unfold headI
  cases hl : lastI m rd (n + 1) with
  | none =>
    rw [hl] at hlast
    simp only at hlast
    rw [hlast]
    show Part.mk m.f4.f0 _ _ _ = _
    rw [H.u]; simp
  | some j =>
    rw [hl] at hlast
    obtain ⟨pre, hpr⟩ := hlast
    rw [hpr]
    have h1 : (pre ++ [rdAt m st sh j]).length = pre.length + 1 := by simp
    rw [h1]
    show Part.mk (rd_T43 (pre ++ [rdAt m st sh j]) ((pre.length : Nat) : Int)).f1 _ _ _ = _
    rw [rd43_last rfl, H.u]; rfl
end Go.Proofs.YtknfkibnocfjiaaDoor.P
