/- P27.4, the plain law: without drift both bounds are reached, segment by segment. -/
import Derived.Test.YtknfkibnocfjiaaDoorMTruth
namespace Go.Proofs.YtknfkibnocfjiaaDoor.P
open Go.RowKit Go.Proofs.YtknfkibnocfjiaaDoorW.PrintWords Go.Proofs.YtknfkibnocfjiaaDoorW.PrintMore Go.Proofs.YtknfkibnocfjiaaDoor.M
set_option linter.unusedVariables false
set_option linter.unusedSimpArgs false
/-- How many days from f on, ahead of k, are inside (or outside) the days asked for. -/
def nS (m : S25) (d : S23) (i : Bool) (f k : Nat) : Int := if i = true then nI m d k - nI m d f else ((k : Int) - f) - (nI m d k - nI m d f)
theorem nS_succ (m : S25) (d : S23) (i : Bool) (f k : Nat) : nS m d i f (k + 1) = nS m d i f k + if inD m d k = i then 1 else 0 := by
  unfold nS
  have e : nI m d (k + 1) = nI m d k + if inD m d k = true then 1 else 0 := rfl
  rw [e]
  cases i <;> cases inD m d k <;> simp <;> omega
theorem nS_self (m : S25) (d : S23) (i : Bool) (f : Nat) : nS m d i f f = 0 := by unfold nS; cases i <;> simp
theorem nS_bd (m : S25) (d : S23) (i : Bool) (f : Nat) : ∀ e : Nat, 0 ≤ nS m d i f (f + e) ∧ nS m d i f (f + e) ≤ e
  | 0 => by rw [Nat.add_zero, nS_self]; simp
  | e + 1 => by
    have h := nS_bd m d i f e
    rw [show f + (e + 1) = (f + e) + 1 by omega, nS_succ]
    split <;> omega
/-- What is taken of what is left: of a stretch between two readings, or of another one. -/
def tk1 (b g : Bool) (M L : Int) : Int := if b = true then mn L M else if g = true then M else 0
def tk (b g : Bool) (M L c : Int) : Int := if b = true then mn L (M * c) else if g = true then M * c else 0
theorem tk_zero (b g : Bool) {M L : Int} (hL : b = true → 0 ≤ L) : tk b g M L 0 = 0 := by
  unfold tk mn; rw [Int.mul_zero]
  cases b
  · cases g <;> simp
  · have hL' := hL rfl
    simp only [if_true]
    split <;> omega
theorem tk_succ (b g : Bool) {M L c : Int} (hM : 0 ≤ M) (hL : b = true → 0 ≤ L) (hc : 0 ≤ c) : tk b g M L (c + 1) = tk b g M L c + tk1 b g M (L - tk b g M L c) := by
  have h := Int.mul_nonneg hM hc
  unfold tk tk1
  rw [Int.mul_add, Int.mul_one]
  generalize M * c = Q at *
  cases b
  · cases g
    · simp
    · simp
  · have hL' := hL rfl
    simp only [if_true]
    unfold mn; (repeat' split) <;> omega
theorem tk_bd (b g : Bool) {M L c : Int} (hM : 0 ≤ M) (hL : b = true → 0 ≤ L) (hc : 0 ≤ c) : 0 ≤ tk b g M L c ∧ (b = true → tk b g M L c ≤ L) ∧ tk b g M L c ≤ M * c := by
  have h := Int.mul_nonneg hM hc
  unfold tk
  generalize M * c = Q at *
  cases b
  · cases g <;> simp <;> omega
  · have hL' := hL rfl
    simp only [if_true]
    unfold mn; (repeat' split) <;> simp <;> omega
/-- What a stretch adds. -/
def segV (g b : Bool) (M S N O : Int) : Int := if g = true then tk b true M S N else tk b false M (S - tk b false M S O) N
def pick (g : Bool) (p : Int × Int) : Int := if g = true then p.2 else p.1
theorem pick_snoc (g : Bool) (m : S25) (d : S23) (l : List Part) (x : Part) : pick g (sumP m d (l ++ [x])) = pick g (sumP m d l) + pick g (bP m d x) := by
  rw [sumP_snoc]; unfold pick; cases g <;> simp
theorem segV_part {m : S25} (hm : 1 ≤ m.f2) (hd : m.f3 = 0) {d : S23} {x : Part} (g : Bool) {S N L : Int} (h0 : 0 ≤ N) (h1 : N ≤ L) (h2 : 0 ≤ S) (h3 : S ≤ m.f2 * L)
    (hN : inP d x.a x.b = N) (hL : x.b - x.a = L) (hS : x.k = true → x.s = S) : pick g (bP m d x) = segV g x.k m.f2 S N (L - N) := by
  have e : m.f2 * L = m.f2 * (L - N) + m.f2 * N := by rw [← Int.mul_add]; congr 1; omega
  have p1 := Int.mul_nonneg (show 0 ≤ m.f2 by omega) h0
  have p2 := Int.mul_nonneg (show 0 ≤ m.f2 by omega) (show 0 ≤ L - N by omega)
  unfold pick bP segV tk
  rw [hd]
  unfold loP hiP
  rw [hN, hL]
  rw [e] at h3
  generalize m.f2 * (L - N) = O at *
  generalize m.f2 * N = I at *
  cases hk : x.k
  · cases g <;> simp <;> omega
  · rw [hS hk]
    cases g
    · simp only [if_true, Bool.false_eq_true, if_false]
      unfold mx mn; (repeat' split) <;> omega
    · simp only [if_true]
      unfold mn; (repeat' split) <;> omega
theorem segV_none {m : S25} (hm : 1 ≤ m.f2) (hd : m.f3 = 0) {d : S23} (g : Bool) (a : Int) : pick g (bP m d ⟨a, a, 0, false⟩) = 0 := by
  have h : inP d a a = 0 := by unfold inP mx mn; (repeat' split) <;> omega
  unfold pick bP loP hiP
  rw [hd]
  simp only [h]
  cases g <;> simp
/-- What has been reached ahead of day f. -/
def rH (g : Bool) (m : S25) (d : S23) (st : Int) (sh : List Int) (rd : List Bool) (n f : Nat) : Int := pick g (sumP m d (if f < n then pU m st sh rd (f + 1) else pAll m st sh rd n))
theorem pU_gap {m : S25} {st : Int} {sh : List Int} {rd : List Bool} {f : Nat} : ∀ e : Nat, (∀ j, f < j → j < f + 1 + e → rAt m rd j = false) → pU m st sh rd (f + 1 + e) = pU m st sh rd (f + 1) ∧ lastI m rd (f + 1 + e) = lastI m rd (f + 1)
  | 0, _ => ⟨rfl, rfl⟩
  | e + 1, h => by
    obtain ⟨h1, h2⟩ := pU_gap (st := st) (sh := sh) e (fun j hj hk => h j hj (by omega))
    have hr : ¬ rAt m rd (f + 1 + e) = true := by rw [h (f + 1 + e) (by omega) (by omega)]; decide
    constructor
    · rw [← h1]; exact if_neg hr
    · rw [← h2]; exact if_neg hr
theorem rH_zero {m : S25} (hm : 1 ≤ m.f2) (hd : m.f3 = 0) {d : S23} (g : Bool) (st : Int) (sh : List Int) (rd : List Bool) {n : Nat} (hn : 1 ≤ n) : rH g m d st sh rd n 0 = 0 := by
  unfold rH
  rw [if_pos (by omega)]
  by_cases hr : rAt m rd 0 = true
  · rw [show pU m st sh rd (0 + 1) = [] ++ [mkPart m st sh (lastI m rd 0) 0] from if_pos hr, pick_snoc]
    have : mkPart m st sh (lastI m rd 0) 0 = ⟨m.f4.f0, m.f4.f0, 0, false⟩ := by
      show (⟨m.f4.f0, m.f4.f0 + ((0 : Nat) : Int), 0, false⟩ : Part) = _
      rw [show m.f4.f0 + ((0 : Nat) : Int) = m.f4.f0 by omega]
    rw [this, segV_none hm hd]
    unfold pick sumP; cases g <;> rfl
  · rw [show pU m st sh rd (0 + 1) = [] from if_neg hr]
    unfold pick sumP; cases g <;> rfl
theorem rH_step {m : S25} (hm : 1 ≤ m.f2) (hd : m.f3 = 0) {d : S23} (hdd : d.f0 < d.f1) (g : Bool) (st : Int) (sh : List Int) (rd : List Bool) {n f t : Nat} (hf : rAt m rd f = true ∨ f = 0) (hft : f < t) (htn : t ≤ n)
    (hgap : ∀ j, f < j → j < t → rAt m rd j = false) (ht : t < n → rAt m rd t = true) :
    rH g m d st sh rd n t = rH g m d st sh rd n f + segV g (rAt m rd f && rAt m rd t) m.f2 (atS m st sh t - atS m st sh f) (nS m d true f t) (nS m d false f t) := by
  obtain ⟨g1, g2⟩ := pU_gap (m := m) (st := st) (sh := sh) (rd := rd) (f := f) (t - (f + 1)) (fun j hj hk => hgap j hj (by omega))
  rw [show f + 1 + (t - (f + 1)) = t by omega] at g1 g2
  have hmono := atS_mono hm st sh (Nat.le_of_lt hft)
  have hbd := nS_bd m d true f (t - f)
  rw [show f + (t - f) = t by omega] at hbd
  have hcnt := inP_cnt (m := m) hdd (Nat.le_of_lt hft)
  have hO : nS m d false f t = ((t : Int) - f) - nS m d true f t := by unfold nS; simp
  have hIn : nS m d true f t = nI m d t - nI m d f := by unfold nS; simp
  have e0 : rH g m d st sh rd n f = pick g (sumP m d (pU m st sh rd (f + 1))) := by unfold rH; rw [if_pos (by omega)]
  have hlt : lastI m rd t = if rAt m rd f = true then some f else none := by
    rw [g2]
    show (if rAt m rd f = true then some f else lastI m rd f) = _
    by_cases h : rAt m rd f = true
    · rw [if_pos h, if_pos h]
    · rw [if_neg h, if_neg h]
      rcases hf with h' | rfl
      · exact absurd h' h
      · rfl
  have key : ∀ x : Part, x.a = m.f4.f0 + (f : Int) → x.b = m.f4.f0 + (t : Int) → x.k = (rAt m rd f && rAt m rd t) → (x.k = true → x.s = atS m st sh t - atS m st sh f) →
      pick g (bP m d x) = segV g (rAt m rd f && rAt m rd t) m.f2 (atS m st sh t - atS m st sh f) (nS m d true f t) (nS m d false f t) := by
    intro x ha hb hk hs
    rw [hO, ← hk]
    refine segV_part hm hd g hbd.1 (by omega) hmono.1 hmono.2 ?_ ?_ hs
    · rw [ha, hb, hcnt, hIn]
    · rw [ha, hb]; omega
  rw [e0]
  have hmk : ∀ hr : rAt m rd t = true, pick g (bP m d (mkPart m st sh (lastI m rd t) t)) = segV g (rAt m rd f && rAt m rd t) m.f2 (atS m st sh t - atS m st sh f) (nS m d true f t) (nS m d false f t) := by
    intro hr
    rw [hlt]
    by_cases h : rAt m rd f = true
    · rw [if_pos h]
      exact key _ rfl rfl (by rw [h, hr]; rfl) (fun _ => rfl)
    · rw [if_neg h]
      rcases hf with h' | rfl
      · exact absurd h' h
      · refine key _ (by show m.f4.f0 = m.f4.f0 + ((0 : Nat) : Int); omega) rfl ?_ (fun e => by simp [mkPart] at e)
        rw [Bool.not_eq_true] at h
        rw [h]; rfl
  by_cases htn' : t < n
  · have hr := ht htn'
    unfold rH
    rw [if_pos htn', show pU m st sh rd (t + 1) = pU m st sh rd t ++ [mkPart m st sh (lastI m rd t) t] from if_pos hr, pick_snoc, g1, hmk hr]
  · obtain rfl : t = n := by omega
    unfold rH
    rw [if_neg (by omega)]
    unfold pAll
    rw [pick_snoc]
    by_cases hr : rAt m rd t = true
    · rw [show pU m st sh rd (t + 1) = pU m st sh rd t ++ [mkPart m st sh (lastI m rd t) t] from if_pos hr, pick_snoc, g1, hmk hr]
      have hh : headI m rd (t + 1) = t := by unfold headI lastI; rw [if_pos hr]; rfl
      rw [hh, segV_none hm hd]; omega
    · rw [show pU m st sh rd (t + 1) = pU m st sh rd t from if_neg hr, g1]
      have hh : headI m rd (t + 1) = f := by
        show (if rAt m rd t = true then some t else lastI m rd t).getD 0 = f
        rw [if_neg hr, hlt]
        by_cases h : rAt m rd f = true
        · rw [if_pos h]; rfl
        · rw [if_neg h]
          rcases hf with h' | rfl
          · exact absurd h' h
          · rfl
      rw [hh, key ⟨m.f4.f0 + (f : Int), m.f4.f0 + (t : Int), 0, false⟩ rfl rfl (by rw [Bool.not_eq_true] at hr; rw [hr, Bool.and_false]) (fun e => by simp at e)]
theorem rH_end (g : Bool) (m : S25) (d : S23) (st : Int) (sh : List Int) (rd : List Bool) (n : Nat) : rH g m d st sh rd n n = pick g (sumP m d (pAll m st sh rd n)) := by
  unfold rH; rw [if_neg (by omega)]
end Go.Proofs.YtknfkibnocfjiaaDoor.P
