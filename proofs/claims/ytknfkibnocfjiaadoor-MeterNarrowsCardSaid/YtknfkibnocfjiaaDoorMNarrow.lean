/- P27.5, the plain law: a further reading never widens the bounds. -/
import Derived.Test.YtknfkibnocfjiaaDoorMTruth
namespace Go.Proofs.YtknfkibnocfjiaaDoor.P
open Go.RowKit Go.Proofs.YtknfkibnocfjiaaDoorW.PrintWords Go.Proofs.YtknfkibnocfjiaaDoorW.PrintMore Go.Proofs.YtknfkibnocfjiaaDoor.M
set_option linter.unusedVariables false
set_option linter.unusedSimpArgs false
/-- A part in two. -/
theorem bP_two {m : S25} (hd : 0 ≤ m.f3 ∧ m.f3 ≤ 100) {d : S23} {x y z : Part} (h1 : loP m d x ≤ loP m d y + loP m d z) (h2 : hiP m d y + hiP m d z ≤ hiP m d x) :
    (bP m d x).1 ≤ (bP m d y).1 + (bP m d z).1 ∧ (bP m d y).2 + (bP m d z).2 ≤ (bP m d x).2 := by
  have hp : 0 < 1000 + m.f3 := by omega
  have hq : 0 < 1000 - m.f3 := by omega
  have up : ∀ u : Int, 1000 * u ≤ (1000 + m.f3) * ((1000 * u + m.f3 + 999) / (1000 + m.f3)) := fun u => by
    have e := Int.mul_ediv_add_emod (1000 * u + m.f3 + 999) (1000 + m.f3)
    have b := Int.emod_lt_of_pos (1000 * u + m.f3 + 999) hp
    omega
  have dn : ∀ u : Int, (1000 - m.f3) * (1000 * u / (1000 - m.f3)) ≤ 1000 * u := fun u => by
    have e := Int.mul_ediv_add_emod (1000 * u) (1000 - m.f3)
    have b := Int.emod_nonneg (1000 * u) (show 1000 - m.f3 ≠ 0 by omega)
    omega
  unfold bP
  constructor
  · show (1000 * loP m d x + m.f3 + 999) / (1000 + m.f3) ≤ (1000 * loP m d y + m.f3 + 999) / (1000 + m.f3) + (1000 * loP m d z + m.f3 + 999) / (1000 + m.f3)
    have a1 := up (loP m d y)
    have a2 := up (loP m d z)
    generalize (1000 * loP m d y + m.f3 + 999) / (1000 + m.f3) = Y at *
    generalize (1000 * loP m d z + m.f3 + 999) / (1000 + m.f3) = Z at *
    have : (1000 * loP m d x + m.f3 + 999) / (1000 + m.f3) < Y + Z + 1 := by
      refine Int.ediv_lt_of_lt_mul hp ?_
      have e : (Y + Z + 1) * (1000 + m.f3) = (1000 + m.f3) * Y + (1000 + m.f3) * Z + 1000 + m.f3 := by rw [Int.mul_comm, Int.mul_add, Int.mul_add, Int.mul_one]; omega
      omega
    omega
  · show 1000 * hiP m d y / (1000 - m.f3) + 1000 * hiP m d z / (1000 - m.f3) ≤ 1000 * hiP m d x / (1000 - m.f3)
    have a1 := dn (hiP m d y)
    have a2 := dn (hiP m d z)
    generalize 1000 * hiP m d y / (1000 - m.f3) = Y at *
    generalize 1000 * hiP m d z / (1000 - m.f3) = Z at *
    refine Int.le_ediv_of_mul_le hq ?_
    have e : (Y + Z) * (1000 - m.f3) = (1000 - m.f3) * Y + (1000 - m.f3) * Z := by rw [Int.mul_comm, Int.mul_add]
    omega
theorem part_two {m : S25} (hm : 1 ≤ m.f2) (hd : 0 ≤ m.f3 ∧ m.f3 ≤ 100) {d : S23} {x y z : Part} (hN : inP d x.a x.b = inP d y.a y.b + inP d z.a z.b) (hL : x.b - x.a = (y.b - y.a) + (z.b - z.a))
    (hny : 0 ≤ inP d y.a y.b) (hnz : 0 ≤ inP d z.a z.b) (hk : x.k = true → y.k = true ∧ z.k = true ∧ x.s = y.s + z.s) :
    (bP m d x).1 ≤ (bP m d y).1 + (bP m d z).1 ∧ (bP m d y).2 + (bP m d z).2 ≤ (bP m d x).2 := by
  have e1 : m.f2 * inP d x.a x.b = m.f2 * inP d y.a y.b + m.f2 * inP d z.a z.b := by rw [hN, Int.mul_add]
  have e2 : m.f2 * (x.b - x.a - inP d x.a x.b) = m.f2 * (y.b - y.a - inP d y.a y.b) + m.f2 * (z.b - z.a - inP d z.a z.b) := by rw [← Int.mul_add, hN, hL]; congr 1; omega
  have ny := Int.mul_nonneg (show 0 ≤ m.f2 by omega) hny
  have nz := Int.mul_nonneg (show 0 ≤ m.f2 by omega) hnz
  refine bP_two hd ?_ ?_
  · unfold loP
    by_cases hx : x.k = true
    · obtain ⟨hy, hz, hs⟩ := hk hx
      rw [if_pos hx, if_pos hy, if_pos hz, e2, hs]
      unfold mx; (repeat' split) <;> omega
    · rw [if_neg hx]
      unfold mx; (repeat' split) <;> omega
  · unfold hiP
    rw [e1]
    by_cases hx : x.k = true
    · obtain ⟨hy, hz, hs⟩ := hk hx
      rw [if_pos hx, if_pos hy, if_pos hz, hs]
      unfold mn; (repeat' split) <;> omega
    · rw [if_neg hx]
      unfold mn; (repeat' split) <;> omega
theorem inP_nn {d : S23} (a b : Int) : 0 ≤ inP d a b := by unfold inP mx; split <;> omega
theorem mk_two {m : S25} (hm : 1 ≤ m.f2) (hd : 0 ≤ m.f3 ∧ m.f3 ≤ 100) {d : S23} (hdd : d.f0 < d.f1) (st : Int) (sh : List Int) {a : Option Nat} {q k : Nat} (ha : a.getD 0 ≤ q) (hqk : q ≤ k) :
    (bP m d (mkPart m st sh a k)).1 ≤ (bP m d (mkPart m st sh a q)).1 + (bP m d (mkPart m st sh (some q) k)).1 ∧ (bP m d (mkPart m st sh a q)).2 + (bP m d (mkPart m st sh (some q) k)).2 ≤ (bP m d (mkPart m st sh a k)).2 := by
  have c2 := inP_cnt (m := m) hdd hqk
  cases a with
  | none =>
    have c1 := inP_cnt (m := m) hdd (Nat.zero_le q)
    have c3 := inP_cnt (m := m) hdd (Nat.zero_le k)
    have e0 : m.f4.f0 + ((0 : Nat) : Int) = m.f4.f0 := by omega
    rw [e0] at c1 c3
    refine part_two hm hd ?_ ?_ (inP_nn _ _) (inP_nn _ _) (fun e => by simp [mkPart] at e)
    · show inP d m.f4.f0 (m.f4.f0 + k) = inP d m.f4.f0 (m.f4.f0 + q) + inP d (m.f4.f0 + q) (m.f4.f0 + k)
      omega
    · show m.f4.f0 + (k : Int) - m.f4.f0 = (m.f4.f0 + (q : Int) - m.f4.f0) + (m.f4.f0 + (k : Int) - (m.f4.f0 + (q : Int)))
      omega
  | some j =>
    simp only [Option.getD_some] at ha
    have c1 := inP_cnt (m := m) hdd ha
    have c3 := inP_cnt (m := m) hdd (Nat.le_trans ha hqk)
    refine part_two hm hd ?_ ?_ (inP_nn _ _) (inP_nn _ _) (fun _ => ⟨rfl, rfl, ?_⟩)
    · show inP d (m.f4.f0 + j) (m.f4.f0 + k) = inP d (m.f4.f0 + j) (m.f4.f0 + q) + inP d (m.f4.f0 + q) (m.f4.f0 + k)
      omega
    · show m.f4.f0 + (k : Int) - (m.f4.f0 + (j : Int)) = (m.f4.f0 + (q : Int) - (m.f4.f0 + (j : Int))) + (m.f4.f0 + (k : Int) - (m.f4.f0 + (q : Int)))
      omega
    · show atS m st sh k - atS m st sh j = (atS m st sh q - atS m st sh j) + (atS m st sh k - atS m st sh q)
      omega
theorem end_two {m : S25} (hm : 1 ≤ m.f2) (hd : 0 ≤ m.f3 ∧ m.f3 ≤ 100) {d : S23} (hdd : d.f0 < d.f1) (st : Int) (sh : List Int) {a : Option Nat} {q n : Nat} (ha : a.getD 0 ≤ q) (hqn : q ≤ n) :
    (bP m d ⟨m.f4.f0 + (a.getD 0 : Nat), m.f4.f0 + n, 0, false⟩).1 ≤ (bP m d (mkPart m st sh a q)).1 + (bP m d ⟨m.f4.f0 + q, m.f4.f0 + n, 0, false⟩).1 ∧ (bP m d (mkPart m st sh a q)).2 + (bP m d ⟨m.f4.f0 + q, m.f4.f0 + n, 0, false⟩).2 ≤ (bP m d ⟨m.f4.f0 + (a.getD 0 : Nat), m.f4.f0 + n, 0, false⟩).2 := by
  have c1 := inP_cnt (m := m) hdd ha
  have c2 := inP_cnt (m := m) hdd hqn
  have c3 := inP_cnt (m := m) hdd (Nat.le_trans ha hqn)
  cases a with
  | none =>
    simp only [Option.getD_none] at c1 c3 ⊢
    have e0 : m.f4.f0 + ((0 : Nat) : Int) = m.f4.f0 := by omega
    rw [e0] at c1 c3 ⊢
    refine part_two hm hd ?_ ?_ (inP_nn _ _) (inP_nn _ _) (fun e => by simp at e)
    · show inP d m.f4.f0 (m.f4.f0 + n) = inP d m.f4.f0 (m.f4.f0 + q) + inP d (m.f4.f0 + q) (m.f4.f0 + n)
      omega
    · show m.f4.f0 + (n : Int) - m.f4.f0 = (m.f4.f0 + (q : Int) - m.f4.f0) + (m.f4.f0 + (n : Int) - (m.f4.f0 + (q : Int)))
      omega
  | some j =>
    simp only [Option.getD_some] at c1 c3 ⊢
    refine part_two hm hd ?_ ?_ (inP_nn _ _) (inP_nn _ _) (fun e => by simp at e)
    · show inP d (m.f4.f0 + j) (m.f4.f0 + n) = inP d (m.f4.f0 + j) (m.f4.f0 + q) + inP d (m.f4.f0 + q) (m.f4.f0 + n)
      omega
    · show m.f4.f0 + (n : Int) - (m.f4.f0 + (j : Int)) = (m.f4.f0 + (q : Int) - (m.f4.f0 + (j : Int))) + (m.f4.f0 + (n : Int) - (m.f4.f0 + (q : Int)))
      omega
theorem pU_same {m : S25} {st : Int} {sh : List Int} {rd rd' : List Bool} {q : Nat} (hq : ∀ k, k ≠ q → rAt m rd' k = rAt m rd k) : ∀ k, k ≤ q → pU m st sh rd' k = pU m st sh rd k ∧ lastI m rd' k = lastI m rd k ∧ rowR m st sh rd' k = rowR m st sh rd k
  | 0, _ => ⟨rfl, rfl, rfl⟩
  | k + 1, h => by
    obtain ⟨h1, h2, h3⟩ := pU_same (st := st) (sh := sh) hq k (by omega)
    have hk := hq k (by omega)
    by_cases hr : rAt m rd k = true
    · have hr' := hk.trans hr
      refine ⟨?_, ?_, ?_⟩
      · rw [show pU m st sh rd' (k + 1) = _ from if_pos hr', show pU m st sh rd (k + 1) = _ from if_pos hr, h1, h2]
      · rw [show lastI m rd' (k + 1) = _ from if_pos hr', show lastI m rd (k + 1) = _ from if_pos hr]
      · show rowR m st sh rd' k ++ (if rAt m rd' k = true then _ else _) = rowR m st sh rd k ++ (if rAt m rd k = true then _ else _)
        rw [if_pos hr, if_pos hr', h3]
    · have hr' : ¬ rAt m rd' k = true := by rw [hk]; exact hr
      refine ⟨?_, ?_, ?_⟩
      · rw [show pU m st sh rd' (k + 1) = _ from if_neg hr', show pU m st sh rd (k + 1) = _ from if_neg hr, h1]
      · rw [show lastI m rd' (k + 1) = _ from if_neg hr', show lastI m rd (k + 1) = _ from if_neg hr, h2]
      · show rowR m st sh rd' k ++ (if rAt m rd' k = true then _ else _) = rowR m st sh rd k ++ (if rAt m rd k = true then _ else _)
        rw [if_neg hr, if_neg hr', h3]
theorem pU_narrow {m : S25} (hm : 1 ≤ m.f2) (hd : 0 ≤ m.f3 ∧ m.f3 ≤ 100) {d : S23} (hdd : d.f0 < d.f1) (st : Int) (sh : List Int) {rd rd' : List Bool} {q : Nat} (hq : ∀ k, k ≠ q → rAt m rd' k = rAt m rd k) (h1 : rAt m rd' q = true) (h0 : rAt m rd q = false) : ∀ e : Nat,
    (lastI m rd (q + 1 + e) = lastI m rd q ∧ lastI m rd' (q + 1 + e) = some q ∧ pU m st sh rd (q + 1 + e) = pU m st sh rd q ∧ pU m st sh rd' (q + 1 + e) = pU m st sh rd q ++ [mkPart m st sh (lastI m rd q) q]) ∨
    (lastI m rd' (q + 1 + e) = lastI m rd (q + 1 + e) ∧ (sumP m d (pU m st sh rd (q + 1 + e))).1 ≤ (sumP m d (pU m st sh rd' (q + 1 + e))).1 ∧ (sumP m d (pU m st sh rd' (q + 1 + e))).2 ≤ (sumP m d (pU m st sh rd (q + 1 + e))).2)
  | 0 => by
    left
    obtain ⟨s1, s2, _⟩ := pU_same (st := st) (sh := sh) hq q (Nat.le_refl _)
    refine ⟨?_, ?_, ?_, ?_⟩
    · show (if rAt m rd q = true then some q else lastI m rd q) = _
      rw [if_neg (by rw [h0]; decide)]
    · show (if rAt m rd' q = true then some q else lastI m rd' q) = _
      rw [if_pos h1]
    · show (if rAt m rd q = true then _ else pU m st sh rd q) = _
      rw [if_neg (by rw [h0]; decide)]
    · show (if rAt m rd' q = true then pU m st sh rd' q ++ [mkPart m st sh (lastI m rd' q) q] else _) = _
      rw [if_pos h1, s1, s2]
  | e + 1 => by
    have ih := pU_narrow hm hd hdd st sh hq h1 h0 e
    have hk : rAt m rd' (q + 1 + e) = rAt m rd (q + 1 + e) := hq _ (by omega)
    have hle := headI_le m rd q
    rw [show q + 1 + (e + 1) = (q + 1 + e) + 1 by omega]
    by_cases hr : rAt m rd (q + 1 + e) = true
    · have hr' : rAt m rd' (q + 1 + e) = true := hk.trans hr
      have p1 : pU m st sh rd (q + 1 + e + 1) = pU m st sh rd (q + 1 + e) ++ [mkPart m st sh (lastI m rd (q + 1 + e)) (q + 1 + e)] := if_pos hr
      have p2 : pU m st sh rd' (q + 1 + e + 1) = pU m st sh rd' (q + 1 + e) ++ [mkPart m st sh (lastI m rd' (q + 1 + e)) (q + 1 + e)] := if_pos hr'
      have l1 : lastI m rd (q + 1 + e + 1) = some (q + 1 + e) := if_pos hr
      have l2 : lastI m rd' (q + 1 + e + 1) = some (q + 1 + e) := if_pos hr'
      right
      refine ⟨by rw [l1, l2], ?_⟩
      rcases ih with ⟨i1, i2, i3, i4⟩ | ⟨i1, i2, i3⟩
      · have ht := mk_two hm hd hdd st sh (a := lastI m rd q) (q := q) (k := q + 1 + e) hle (by omega)
        rw [p1, p2, i1, i2, i3, i4, sumP_snoc, sumP_snoc, sumP_snoc]
        constructor
        · show _ + _ ≤ _ + _ + _; omega
        · show _ + _ + _ ≤ _ + _; omega
      · rw [p1, p2, i1, sumP_snoc, sumP_snoc]
        constructor
        · show _ + _ ≤ _ + _; omega
        · show _ + _ ≤ _ + _; omega
    · have hr' : ¬ rAt m rd' (q + 1 + e) = true := by rw [hk]; exact hr
      have p1 : pU m st sh rd (q + 1 + e + 1) = pU m st sh rd (q + 1 + e) := if_neg hr
      have p2 : pU m st sh rd' (q + 1 + e + 1) = pU m st sh rd' (q + 1 + e) := if_neg hr'
      have l1 : lastI m rd (q + 1 + e + 1) = lastI m rd (q + 1 + e) := if_neg hr
      have l2 : lastI m rd' (q + 1 + e + 1) = lastI m rd' (q + 1 + e) := if_neg hr'
      rw [p1, p2, l1, l2]; exact ih
theorem pAll_narrow {m : S25} (hm : 1 ≤ m.f2) (hd : 0 ≤ m.f3 ∧ m.f3 ≤ 100) {d : S23} (hdd : d.f0 < d.f1) (st : Int) (sh : List Int) {rd rd' : List Bool} {q n : Nat} (hqn : q ≤ n) (hq : ∀ k, k ≠ q → rAt m rd' k = rAt m rd k) (h1 : rAt m rd' q = true) (h0 : rAt m rd q = false) :
    (sumP m d (pAll m st sh rd n)).1 ≤ (sumP m d (pAll m st sh rd' n)).1 ∧ (sumP m d (pAll m st sh rd' n)).2 ≤ (sumP m d (pAll m st sh rd n)).2 := by
  have h := pU_narrow hm hd hdd st sh hq h1 h0 (n - q)
  rw [show q + 1 + (n - q) = n + 1 by omega] at h
  unfold pAll
  rw [sumP_snoc, sumP_snoc]
  rcases h with ⟨i1, i2, i3, i4⟩ | ⟨i1, i2, i3⟩
  · have ht := end_two hm hd hdd st sh (a := lastI m rd q) (headI_le m rd q) hqn
    unfold headI
    rw [i1, i2, i3, i4, sumP_snoc]
    constructor
    · show _ + _ ≤ _ + _ + _; exact (by simp only [Option.getD_some]; omega)
    · show _ + _ + _ ≤ _ + _; exact (by simp only [Option.getD_some]; omega)
  · unfold headI
    rw [i1]
    constructor
    · show _ + _ ≤ _ + _; omega
    · show _ + _ ≤ _ + _; omega
/-- A further reading is one reading more. -/
theorem rowR_more {m : S25} {st : Int} {sh : List Int} {rd rd' : List Bool} {q : Nat} (hq : ∀ k, k ≠ q → rAt m rd' k = rAt m rd k) (h1 : rAt m rd' q = true) (h0 : rAt m rd q = false) : ∀ e : Nat, (rowR m st sh rd' (q + 1 + e)).length = (rowR m st sh rd (q + 1 + e)).length + 1
  | 0 => by
    obtain ⟨_, _, s3⟩ := pU_same (st := st) (sh := sh) hq q (Nat.le_refl _)
    show (rowR m st sh rd' q ++ (if rAt m rd' q = true then [rdAt m st sh q] else [])).length = (rowR m st sh rd q ++ (if rAt m rd q = true then [rdAt m st sh q] else [])).length + 1
    rw [if_pos h1, if_neg (by rw [h0]; decide), s3]; simp
  | e + 1 => by
    have ih := rowR_more (st := st) (sh := sh) hq h1 h0 e
    have hk : rAt m rd' (q + 1 + e) = rAt m rd (q + 1 + e) := hq _ (by omega)
    show (rowR m st sh rd' (q + 1 + e) ++ (if rAt m rd' (q + 1 + e) = true then _ else [])).length = (rowR m st sh rd (q + 1 + e) ++ (if rAt m rd (q + 1 + e) = true then _ else [])).length + 1
    rw [hk, List.length_append, List.length_append, ih]
    split <;> simp <;> omega
/-- The days read, with a further one. -/
def moreL (m : S25) (rd : List Bool) (n q : Nat) : List Bool := ((List.range (n + 1)).map (rAt m rd)).set q true
theorem rAt_more {m : S25} {rd : List Bool} {n q k : Nat} (hk : k ≤ n) : rAt m (moreL m rd n q) k = if k = q then decide (m.f4.f0 + (k : Int) ≤ 36524) else rAt m rd k := by
  unfold moreL
  show (List.getD (((List.range (n + 1)).map (rAt m rd)).set q true) k false && decide (m.f4.f0 + (k : Int) ≤ 36524)) = _
  rw [List.getD_eq_getElem?_getD]
  by_cases e : k = q
  · subst e
    rw [List.getElem?_set_self (by simp; omega), if_pos rfl]; simp
  · rw [List.getElem?_set_ne (by omega), List.getElem?_map, List.getElem?_range (by omega), if_neg e]
    show (rAt m rd k && decide (m.f4.f0 + (k : Int) ≤ 36524)) = rAt m rd k
    unfold rAt
    cases decide (m.f4.f0 + (k : Int) ≤ 36524) <;> simp
theorem rAt_off {m : S25} {rd : List Bool} {n q k : Nat} (hk : n < k) : rAt m (moreL m rd n q) k = false := by
  unfold moreL
  show (List.getD (((List.range (n + 1)).map (rAt m rd)).set q true) k false && _) = _
  rw [List.getD_eq_getElem?_getD, List.getElem?_eq_none (by simp; omega)]; rfl
/-- Rows and parts hang on the days read alone. -/
theorem rowR_congr {m : S25} {st : Int} {sh : List Int} {rd rd' : List Bool} : ∀ k : Nat, (∀ j, j < k → rAt m rd' j = rAt m rd j) → rowR m st sh rd' k = rowR m st sh rd k ∧ pU m st sh rd' k = pU m st sh rd k ∧ lastI m rd' k = lastI m rd k
  | 0, _ => ⟨rfl, rfl, rfl⟩
  | k + 1, h => by
    obtain ⟨h1, h2, h3⟩ := rowR_congr (st := st) (sh := sh) k (fun j hj => h j (by omega))
    have hk := h k (by omega)
    by_cases hr : rAt m rd k = true
    · have hr' := hk.trans hr
      refine ⟨?_, ?_, ?_⟩
      · show rowR m st sh rd' k ++ (if rAt m rd' k = true then _ else _) = rowR m st sh rd k ++ (if rAt m rd k = true then _ else _)
        rw [if_pos hr, if_pos hr', h1]
      · rw [show pU m st sh rd' (k + 1) = _ from if_pos hr', show pU m st sh rd (k + 1) = _ from if_pos hr, h2, h3]
      · rw [show lastI m rd' (k + 1) = _ from if_pos hr', show lastI m rd (k + 1) = _ from if_pos hr]
    · have hr' : ¬ rAt m rd' k = true := by rw [hk]; exact hr
      refine ⟨?_, ?_, ?_⟩
      · show rowR m st sh rd' k ++ (if rAt m rd' k = true then _ else _) = rowR m st sh rd k ++ (if rAt m rd k = true then _ else _)
        rw [if_neg hr, if_neg hr', h1]
      · rw [show pU m st sh rd' (k + 1) = _ from if_neg hr', show pU m st sh rd (k + 1) = _ from if_neg hr, h2]
      · rw [show lastI m rd' (k + 1) = _ from if_neg hr', show lastI m rd (k + 1) = _ from if_neg hr, h3]
/-- P27.5 on what made and Bounds compute: with a further reading the bounds are no wider, or it is too far from another one. -/
theorem narrow {m : S25} {st : Int} {n : Nat} (H : Hist m st n) (sh : List Int) (rd : List Bool) {d : S23} (hs : stretchB d.f0 d.f1 = true) {q : Nat} (hqn : q ≤ n) {lo hi : Int} (h0 : boundsL m (rowR m st sh rd (n + 1)) d 0 = ((lo, hi), 0)) :
    (∃ lo2 hi2, boundsL m (rowR m st sh (moreL m rd n q) (n + 1)) d 0 = ((lo2, hi2), 0) ∧ lo ≤ lo2 ∧ hi2 ≤ hi) ∨
    (∃ l2 h2, boundsL m (rowR m st sh (moreL m rd n q) (n + 1)) d 0 = ((l2, h2), 3) ∧ (rowR m st sh rd (n + 1)).length < (rowR m st sh (moreL m rd n q) (n + 1)).length) := by
  have hb := validM_bd H.v
  by_cases hnew : rAt m rd q = false ∧ m.f4.f0 + (q : Int) ≤ 36524
  · have hq : ∀ k, k ≠ q → k ≤ n → rAt m (moreL m rd n q) k = rAt m rd k := fun k hk hkn => by rw [rAt_more hkn, if_neg hk]
    have h1 : rAt m (moreL m rd n q) q = true := by rw [rAt_more hqn, if_pos rfl, decide_eq_true hnew.2]
    -- the days behind the last one do not matter: cut the row there
    have hcut : ∀ k, k < n + 1 → rAt m (rd.take (n + 1)) k = rAt m rd k := fun k hk => by
      unfold rAt
      rw [List.getD_eq_getElem?_getD, List.getD_eq_getElem?_getD, List.getElem?_take_of_lt hk]
    have hcut0 : ∀ k, n < k → rAt m (rd.take (n + 1)) k = false := fun k hk => by
      unfold rAt
      rw [List.getD_eq_getElem?_getD, List.getElem?_eq_none (by simp; omega)]; rfl
    obtain ⟨c1, c2, c3⟩ := rowR_congr (st := st) (sh := sh) (n + 1) hcut
    have hqa : ∀ k, k ≠ q → rAt m (moreL m rd n q) k = rAt m (rd.take (n + 1)) k := fun k hk => by
      rcases Nat.lt_or_ge n k with h | h
      · rw [rAt_off h, hcut0 k h]
      · rw [hq k hk h, hcut k (by omega)]
    have h00 : rAt m (rd.take (n + 1)) q = false := by rw [hcut q (by omega)]; exact hnew.1
    have hlen := rowR_more (st := st) (sh := sh) hqa h1 h00 (n - q)
    rw [show q + 1 + (n - q) = n + 1 by omega, c1] at hlen
    have hnar := pAll_narrow (m := m) (by omega) (by omega) (d := d) (stretchB_iff.1 hs).2.1 st sh hqn hqa h1 h00
    have hpa : pAll m st sh (rd.take (n + 1)) n = pAll m st sh rd n := by unfold pAll headI; rw [c2, c3]
    rw [hpa] at hnar
    have hfirst : (sumP m d (pAll m st sh rd n)) = (lo, hi) := by
      rcases hist_bounds H sh rd hs with ⟨g, _⟩ | ⟨g, _⟩
      · rw [g] at h0; injection h0
      · rw [h0] at g; simp at g
    rw [hfirst] at hnar
    rcases hist_bounds H sh (moreL m rd n q) hs with ⟨g, _⟩ | ⟨g, _⟩
    · exact .inl ⟨_, _, g, hnar.1, hnar.2⟩
    · refine .inr ⟨(boundsL m (rowR m st sh (moreL m rd n q) (n + 1)) d 0).1.1, (boundsL m (rowR m st sh (moreL m rd n q) (n + 1)) d 0).1.2, ?_, by omega⟩
      rw [← g]
  · refine .inl ⟨lo, hi, ?_, Int.le_refl _, Int.le_refl _⟩
    have hsame : ∀ k, k < n + 1 → rAt m (moreL m rd n q) k = rAt m rd k := fun k hk => by
      rw [rAt_more (by omega)]
      by_cases e : k = q
      · subst e
        rw [if_pos rfl]
        cases hr : rAt m rd k with
        | true =>
          unfold rAt at hr
          simp only [Bool.and_eq_true] at hr
          exact hr.2
        | false => exact decide_eq_false (fun h => hnew ⟨hr, h⟩)
      · rw [if_neg e]
    rw [(rowR_congr (st := st) (sh := sh) (n + 1) hsame).1]
    exact h0
end Go.Proofs.YtknfkibnocfjiaaDoor.P
