/- P27.3, the plain law: the bounds contain what was counted. -/
import Derived.Test.YtknfkibnocfjiaaDoorMHist
namespace Go.Proofs.YtknfkibnocfjiaaDoor.P
open Go.RowKit Go.Proofs.YtknfkibnocfjiaaDoorW.PrintWords Go.Proofs.YtknfkibnocfjiaaDoorW.PrintMore Go.Proofs.YtknfkibnocfjiaaDoor.M
set_option linter.unusedVariables false
set_option linter.unusedSimpArgs false
/-- Is day k one of the days asked for? -/
def inD (m : S25) (d : S23) (k : Nat) : Bool := decide (d.f0 ≤ m.f4.f0 + k) && decide (m.f4.f0 + k < d.f1)
/-- How many of the first k days are asked for; what was shown, and counted, on these. -/
def nI (m : S25) (d : S23) : Nat → Int
  | 0 => 0
  | k + 1 => nI m d k + if inD m d k = true then 1 else 0
def sI (m : S25) (d : S23) (sh : List Int) : Nat → Int
  | 0 => 0
  | k + 1 => sI m d sh k + if inD m d k = true then sAt m sh k else 0
def cI (m : S25) (d : S23) (sh sl : List Int) : Nat → Int
  | 0 => 0
  | k + 1 => cI m d sh sl k + if inD m d k = true then cAt m sh sl k else 0
theorem inP_cnt {m : S25} {d : S23} (hd : d.f0 < d.f1) {a b : Nat} (h : a ≤ b) : inP d (m.f4.f0 + a) (m.f4.f0 + b) = nI m d b - nI m d a := by
  induction b with
  | zero =>
    obtain rfl : a = 0 := by omega
    unfold inP mx mn; (repeat' split) <;> omega
  | succ b ih =>
    by_cases hab : a = b + 1
    · subst hab
      rw [Int.sub_self]
      unfold inP mx mn; (repeat' split) <;> omega
    · have h1 := ih (by omega)
      have h2 : nI m d (b + 1) = nI m d b + if inD m d b = true then 1 else 0 := rfl
      rw [h2, show nI m d b + (if inD m d b = true then 1 else 0) - nI m d a = (nI m d b - nI m d a) + (if inD m d b = true then 1 else 0) by omega, ← h1]
      have hab' : (a : Int) ≤ b := by omega
      by_cases hin : inD m d b = true
      · rw [if_pos hin]
        unfold inD at hin
        simp only [Bool.and_eq_true, decide_eq_true_eq] at hin
        unfold inP mx mn
        rw [show ((b + 1 : Nat) : Int) = (b : Int) + 1 by omega]
        (repeat' split) <;> omega
      · rw [if_neg hin]
        have hin2 : ¬ (d.f0 ≤ m.f4.f0 + (b : Int) ∧ m.f4.f0 + (b : Int) < d.f1) := fun h => hin (by unfold inD; rw [decide_eq_true h.1, decide_eq_true h.2]; rfl)
        unfold inP mx mn
        rw [show ((b + 1 : Nat) : Int) = (b : Int) + 1 by omega]
        (repeat' split) <;> omega
theorem cAt_bd {m : S25} (h : 1 ≤ m.f2 ∧ m.f2 ≤ 10000) (hd : 0 ≤ m.f3 ∧ m.f3 ≤ 100) (sh sl : List Int) (k : Nat) :
    1000 * sAt m sh k ≤ (1000 + m.f3) * cAt m sh sl k ∧ (1000 - m.f3) * cAt m sh sl k ≤ 1000 * sAt m sh k := by
  have hs := sAt_bd h.1 sh k
  have hl := lohi hd hs.1 (show sAt m sh k ≤ 10000 by omega)
  have hc : loS m (sAt m sh k) ≤ cAt m sh sl k ∧ cAt m sh sl k ≤ hiS m (sAt m sh k) := by
    unfold cAt
    split
    · have h1 := Int.emod_nonneg (sl.getD k 0) (show hiS m (sAt m sh k) - loS m (sAt m sh k) + 1 ≠ 0 by omega)
      have h2 := Int.emod_lt_of_pos (sl.getD k 0) (show 0 < hiS m (sAt m sh k) - loS m (sAt m sh k) + 1 by omega)
      omega
    · omega
  have h1 : 1000 * sAt m sh k ≤ (1000 + m.f3) * loS m (sAt m sh k) := by
    unfold loS
    have e := Int.mul_ediv_add_emod (1000 * sAt m sh k + 999 + m.f3) (1000 + m.f3)
    have b := Int.emod_lt_of_pos (1000 * sAt m sh k + 999 + m.f3) (show 0 < 1000 + m.f3 by omega)
    omega
  have h2 : (1000 - m.f3) * hiS m (sAt m sh k) ≤ 1000 * sAt m sh k := by
    unfold hiS
    have e := Int.mul_ediv_add_emod (1000 * sAt m sh k) (1000 - m.f3)
    have b := Int.emod_nonneg (1000 * sAt m sh k) (show 1000 - m.f3 ≠ 0 by omega)
    omega
  have h3 := Int.mul_le_mul_of_nonneg_left hc.1 (show 0 ≤ 1000 + m.f3 by omega)
  have h4 := Int.mul_le_mul_of_nonneg_left hc.2 (show 0 ≤ 1000 - m.f3 by omega)
  omega
/-- What a stretch of days holds. -/
structure SegOk (m : S25) (N L A PS PC : Int) : Prop where
  n0 : 0 ≤ N
  nl : N ≤ L
  s0 : 0 ≤ PS
  s1 : PS ≤ m.f2 * N
  a0 : 0 ≤ A - PS
  a1 : A - PS ≤ m.f2 * (L - N)
  c0 : 1000 * PS ≤ (1000 + m.f3) * PC
  c1 : (1000 - m.f3) * PC ≤ 1000 * PS
theorem SegOk.inn {m : S25} {N L A PS PC s c : Int} (h : SegOk m N L A PS PC) (hs : 0 ≤ s ∧ s ≤ m.f2) (hc : 1000 * s ≤ (1000 + m.f3) * c ∧ (1000 - m.f3) * c ≤ 1000 * s) : SegOk m (N + 1) (L + 1) (A + s) (PS + s) (PC + c) := by
  obtain ⟨g1, g2, g3, g4, g5, g6, g7, g8⟩ := h
  have e1 : m.f2 * (N + 1) = m.f2 * N + m.f2 := by rw [Int.mul_add, Int.mul_one]
  have e2 : m.f2 * (L + 1 - (N + 1)) = m.f2 * (L - N) := by rw [show L + 1 - (N + 1) = L - N by omega]
  have e3 : (1000 + m.f3) * (PC + c) = (1000 + m.f3) * PC + (1000 + m.f3) * c := Int.mul_add _ _ _
  have e4 : (1000 - m.f3) * (PC + c) = (1000 - m.f3) * PC + (1000 - m.f3) * c := Int.mul_add _ _ _
  constructor <;> omega
theorem SegOk.off {m : S25} {N L A PS PC s : Int} (h : SegOk m N L A PS PC) (hs : 0 ≤ s ∧ s ≤ m.f2) : SegOk m N (L + 1) (A + s) PS PC := by
  obtain ⟨g1, g2, g3, g4, g5, g6, g7, g8⟩ := h
  have e2 : m.f2 * (L + 1 - N) = m.f2 * (L - N) + m.f2 := by rw [show L + 1 - N = (L - N) + 1 by omega, Int.mul_add, Int.mul_one]
  constructor <;> omega
theorem seg_ok {m : S25} (h : 1 ≤ m.f2 ∧ m.f2 ≤ 10000) (hd : 0 ≤ m.f3 ∧ m.f3 ≤ 100) (d : S23) (st : Int) (sh sl : List Int) {a b : Nat} (hab : a ≤ b) :
    SegOk m (nI m d b - nI m d a) ((b : Int) - a) (atS m st sh b - atS m st sh a) (sI m d sh b - sI m d sh a) (cI m d sh sl b - cI m d sh sl a) := by
  induction b with
  | zero =>
    obtain rfl : a = 0 := by omega
    constructor <;> simp
  | succ b ih =>
    by_cases e : a = b + 1
    · subst e
      constructor <;> simp
    · have g := ih (by omega)
      have hs := sAt_bd h.1 sh b
      have hc := cAt_bd h hd sh sl b
      have e1 : nI m d (b + 1) = nI m d b + if inD m d b = true then 1 else 0 := rfl
      have e2 : sI m d sh (b + 1) = sI m d sh b + if inD m d b = true then sAt m sh b else 0 := rfl
      have e3 : cI m d sh sl (b + 1) = cI m d sh sl b + if inD m d b = true then cAt m sh sl b else 0 := rfl
      have e4 : atS m st sh (b + 1) = atS m st sh b + sAt m sh b := rfl
      have e5 : ((b + 1 : Nat) : Int) - a = ((b : Int) - a) + 1 := by omega
      rw [e1, e2, e3, e4, e5]
      by_cases hin : inD m d b = true
      · rw [if_pos hin, if_pos hin, if_pos hin]
        have := g.inn hs hc
        rwa [show nI m d b + 1 - nI m d a = nI m d b - nI m d a + 1 by omega, show atS m st sh b + sAt m sh b - atS m st sh a = atS m st sh b - atS m st sh a + sAt m sh b by omega,
          show sI m d sh b + sAt m sh b - sI m d sh a = sI m d sh b - sI m d sh a + sAt m sh b by omega, show cI m d sh sl b + cAt m sh sl b - cI m d sh sl a = cI m d sh sl b - cI m d sh sl a + cAt m sh sl b by omega]
      · rw [if_neg hin, if_neg hin, if_neg hin]
        have := g.off hs
        rwa [Int.add_zero, Int.add_zero, Int.add_zero, show atS m st sh b + sAt m sh b - atS m st sh a = atS m st sh b - atS m st sh a + sAt m sh b by omega]
/-- A part's bounds contain what was counted. -/
theorem part_truth {m : S25} (hd : 0 ≤ m.f3 ∧ m.f3 ≤ 100) {d : S23} {x : Part} {N L A PS PC : Int} (h : SegOk m N L A PS PC) (hN : inP d x.a x.b = N) (hL : x.b - x.a = L) (hA : x.k = true → x.s = A) :
    (bP m d x).1 ≤ PC ∧ PC ≤ (bP m d x).2 := by
  obtain ⟨g1, g2, g3, g4, g5, g6, g7, g8⟩ := h
  have hlo : loP m d x ≤ PS := by
    unfold loP
    by_cases hk : x.k = true
    · rw [if_pos hk, hA hk, hN, hL]
      unfold mx; split <;> omega
    · rw [if_neg hk]; exact g3
  have hhi : PS ≤ hiP m d x := by
    unfold hiP
    by_cases hk : x.k = true
    · rw [if_pos hk, hA hk, hN]
      unfold mn; split <;> omega
    · rw [if_neg hk, hN]; exact g4
  unfold bP
  constructor
  · show (1000 * loP m d x + m.f3 + 999) / (1000 + m.f3) ≤ PC
    have : (1000 * loP m d x + m.f3 + 999) / (1000 + m.f3) < PC + 1 := by
      refine Int.ediv_lt_of_lt_mul (by omega) ?_
      have e : (PC + 1) * (1000 + m.f3) = (1000 + m.f3) * PC + 1000 + m.f3 := by rw [Int.mul_comm, Int.mul_add, Int.mul_one]; omega
      omega
    omega
  · show PC ≤ 1000 * hiP m d x / (1000 - m.f3)
    refine Int.le_ediv_of_mul_le (by omega) ?_
    have e : PC * (1000 - m.f3) = (1000 - m.f3) * PC := Int.mul_comm _ _
    omega
theorem pU_truth {m : S25} (h : 1 ≤ m.f2 ∧ m.f2 ≤ 10000) (hd : 0 ≤ m.f3 ∧ m.f3 ≤ 100) {d : S23} (hdd : d.f0 < d.f1) (st : Int) (sh sl : List Int) (rd : List Bool) : ∀ k : Nat,
    (sumP m d (pU m st sh rd k)).1 ≤ cI m d sh sl (headI m rd k) ∧ cI m d sh sl (headI m rd k) ≤ (sumP m d (pU m st sh rd k)).2
  | 0 => by simp [pU, sumP, headI, lastI, cI]
  | k + 1 => by
    have ih := pU_truth h hd hdd st sh sl rd k
    by_cases hr : rAt m rd k = true
    · have e1 : pU m st sh rd (k + 1) = pU m st sh rd k ++ [mkPart m st sh (lastI m rd k) k] := if_pos hr
      have e2 : headI m rd (k + 1) = k := by unfold headI lastI; rw [if_pos hr]; rfl
      rw [e1, e2, sumP_snoc]
      have hle := headI_le m rd k
      have hs := seg_ok h hd d st sh sl hle
      have hp : (bP m d (mkPart m st sh (lastI m rd k) k)).1 ≤ cI m d sh sl k - cI m d sh sl (headI m rd k) ∧ cI m d sh sl k - cI m d sh sl (headI m rd k) ≤ (bP m d (mkPart m st sh (lastI m rd k) k)).2 := by
        have hcnt := inP_cnt (m := m) hdd hle
        unfold headI at hs hcnt hle ⊢
        cases hl : lastI m rd k with
        | none =>
          rw [hl] at hs hcnt
          simp only [Option.getD_none] at hs hcnt ⊢
          refine part_truth hd hs ?_ ?_ (fun e => by simp [mkPart] at e)
          · rw [← hcnt]; show inP d m.f4.f0 _ = _; simp [mkPart]
          · show m.f4.f0 + (k : Int) - m.f4.f0 = _; omega
        | some j =>
          rw [hl] at hs hcnt
          simp only [Option.getD_some] at hs hcnt ⊢
          refine part_truth hd hs hcnt ?_ (fun _ => rfl)
          show m.f4.f0 + (k : Int) - (m.f4.f0 + (j : Int)) = _; omega
      constructor
      · show _ + _ ≤ _; omega
      · show _ ≤ _ + _; omega
    · have e1 : pU m st sh rd (k + 1) = pU m st sh rd k := if_neg hr
      have e2 : headI m rd (k + 1) = headI m rd k := by
        show (if rAt m rd k = true then some k else lastI m rd k).getD 0 = (lastI m rd k).getD 0
        rw [if_neg hr]
      rw [e1, e2]; exact ih
theorem pAll_truth {m : S25} (h : 1 ≤ m.f2 ∧ m.f2 ≤ 10000) (hd : 0 ≤ m.f3 ∧ m.f3 ≤ 100) {d : S23} (hdd : d.f0 < d.f1) (st : Int) (sh sl : List Int) (rd : List Bool) (n : Nat) :
    (sumP m d (pAll m st sh rd n)).1 ≤ cI m d sh sl n ∧ cI m d sh sl n ≤ (sumP m d (pAll m st sh rd n)).2 := by
  have h1 := pU_truth h hd hdd st sh sl rd (n + 1)
  have hle : headI m rd (n + 1) ≤ n := by
    unfold headI
    cases hl : lastI m rd (n + 1) with
    | none => exact Nat.zero_le _
    | some j => have := (lastI_lt m rd (n + 1) j hl).1; simp only [Option.getD_some]; omega
  have hp := part_truth hd (seg_ok h hd d st sh sl hle) (x := ⟨m.f4.f0 + headI m rd (n + 1), m.f4.f0 + n, 0, false⟩) (inP_cnt hdd hle) (show m.f4.f0 + (n : Int) - (m.f4.f0 + (headI m rd (n + 1) : Int)) = _ by omega) (fun e => by simp at e)
  unfold pAll
  rw [sumP_snoc]
  constructor
  · show _ + _ ≤ _; omega
  · show _ ≤ _ + _; omega
/-- Bounds of a history: they contain what was counted, or two readings are too far apart. -/
theorem hist_bounds {m : S25} {st : Int} {n : Nat} (H : Hist m st n) (sh : List Int) (rd : List Bool) {d : S23} (hs : stretchB d.f0 d.f1 = true) :
    boundsL m (rowR m st sh rd (n + 1)) d 0 = (sumP m d (pAll m st sh rd n), 0) ∧ Near m (rowR m st sh rd (n + 1)) ∨ (boundsL m (rowR m st sh rd (n + 1)) d 0).2 = 3 ∧ ¬ Near m (rowR m st sh rd (n + 1)) := by
  have hc := hist_clean H sh rd
  by_cases hn : Near m (rowR m st sh rd (n + 1))
  · left
    have h := hc.1 hn
    rw [bounds_clean hs (by rw [h]), h]
    exact ⟨by rw [parts_hist H sh rd hn], hn⟩
  · right
    have h := hc.2 hn
    exact ⟨by rw [bounds_er2 hs, h], hn⟩
end Go.Proofs.YtknfkibnocfjiaaDoor.P
