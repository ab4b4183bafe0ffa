/- LotteryLots: Lots returns each number from 1 on once: the law returns true, whatever the seed and the number. -/
import Derived.Test.YtfkeelccnomjkaaDoorGHead
import Derived.Test.YtfkeelccnomjkaaDoorPXcohousinglaw22LotteryLots
import Derived.Test.YtfkeelccnomjkaaDoorOpenSL
namespace Go.Proofs.YtfkeelccnomjkaaDoor.P
open Go.RowKit Go.Proofs.YtfkeelccnomjkaaDoorW.PrintWords Go.Proofs.YtfkeelccnomjkaaDoorW.PrintLast Go.Proofs.YtfkeelccnomjkaaDoorW.PrintMore Go.Proofs.YtfkeelccnomjkaaDoor.M
set_option linter.unusedVariables false
set_option linter.unusedSimpArgs false
theorem head_f : cohousinglaw22_head.f = some true := rfl
theorem swapL_perm (l : List Int) {i k : Nat} (hi : i < l.length) (hk : k < l.length) : (swapL l i k).Perm l := by
  unfold swapL
  rw [rdI_get hi, rdI_get hk, List.perm_iff_count]
  intro a
  rw [List.count_set (by rw [List.length_set]; exact hk), List.count_set hi]
  by_cases e : i = k
  · subst e
    rw [List.getElem_set_self]
    by_cases h : (l[i] == a) = true
    · have := List.count_pos_iff.2 (show l[i] ∈ l from List.getElem_mem hi)
      have h2 : l[i] = a := by simpa using h
      rw [← h2] at *
      first | (simp; done) | (simp; omega)
    · simp [h]
  · rw [List.getElem_set_ne e]
    have c1 : (l[i] == a) = true → 0 < l.count a := fun h => by
      have h2 : l[i] = a := by simpa using h
      rw [← h2]; exact List.count_pos_iff.2 (List.getElem_mem hi)
    by_cases h1 : (l[i] == a) = true
    · have := c1 h1
      by_cases h2 : (l[k] == a) = true
      · simp only [h1, h2, if_true]; omega
      · simp only [h1, h2, if_true]; simp; omega
    · by_cases h2 : (l[k] == a) = true
      · simp only [h1, h2, if_true]; simp
      · simp only [h1, h2]; simp
theorem lotsGo_perm : ∀ (i : Nat) (x : Int) (l : List Int), i < l.length ∨ i = 0 → (lotsGo i x l).Perm l
  | 0, _, l, _ => List.Perm.refl _
  | i + 1, x, l, h => by
    have hi : i + 1 < l.length := by omega
    have h0 : 0 ≤ stepL x % ((i : Int) + 2) := Int.emod_nonneg _ (by omega)
    have h1 : stepL x % ((i : Int) + 2) < (i : Int) + 2 := Int.emod_lt_of_pos _ (by omega)
    unfold lotsGo
    exact (lotsGo_perm i _ _ (by rw [swapL_len]; omega)).trans (swapL_perm l hi (by omega))
theorem firstN_mem {n : Nat} {x : Int} : x ∈ firstN n ↔ 1 ≤ x ∧ x ≤ (n : Int) := by
  unfold firstN
  rw [List.mem_map]
  constructor
  · rintro ⟨i, hi, rfl⟩
    rw [List.mem_range] at hi; omega
  · rintro ⟨h1, h2⟩
    exact ⟨(x - 1).toNat, by rw [List.mem_range]; omega, by omega⟩
theorem firstN_nodup (n : Nat) : (firstN n).Nodup := by
  unfold firstN
  rw [List.nodup_iff_pairwise_ne, List.pairwise_map]
  exact List.pairwise_lt_range.imp (fun {a b} h => by omega)
/-- The numbers that have been seen. -/
def seenL (p : List Int) : List Bool := p.foldl (fun s x => s.set x.toNat true) (List.replicate 65 false)
theorem seenL_snoc (p : List Int) (x : Int) : seenL (p ++ [x]) = (seenL p).set x.toNat true := by unfold seenL; rw [List.foldl_append]; rfl
theorem seenL_len : ∀ p : List Int, (seenL p).length = 65 := by
  have : ∀ (p : List Int) (s : List Bool), (p.foldl (fun s x => s.set x.toNat true) s).length = s.length := by
    intro p
    induction p with
    | nil => intro s; rfl
    | cons x p ih => intro s; rw [List.foldl_cons, ih, List.length_set]
  intro p; unfold seenL; rw [this]; simp
theorem snoc_ind {α : Type} {p : List α → Prop} (h0 : p []) (h1 : ∀ l a, p l → p (l ++ [a])) (l : List α) : p l := by
  have h : ∀ m : List α, p m.reverse := by
    intro m
    induction m with
    | nil => exact h0
    | cons a m ih => rw [List.reverse_cons]; exact h1 _ _ ih
  have := h l.reverse
  rwa [List.reverse_reverse] at this
theorem seenL_at (p : List Int) : (∀ y ∈ p, 0 ≤ y ∧ y ≤ 64) → ∀ x : Int, 0 ≤ x → x ≤ 64 → x ∉ p → rdOf false (seenL p) x = false := by
  refine snoc_ind (p := fun p => (∀ y ∈ p, 0 ≤ y ∧ y ≤ 64) → ∀ x : Int, 0 ≤ x → x ≤ 64 → x ∉ p → rdOf false (seenL p) x = false) ?_ ?_ p
  · intro _ x h0 h1 _
    unfold rdOf seenL
    rw [List.foldl_nil, List.getD_eq_getElem?_getD, List.getElem?_replicate]
    split <;> rfl
  · intro l a ih hy x h0 h1 hn
    rw [seenL_snoc]
    have hne : a ≠ x := fun e => hn (by simp [e])
    have ha := hy a (by simp)
    have h2 := ih (fun y hm => hy y (by simp [hm])) x h0 h1 (fun h => hn (by simp [h]))
    unfold rdOf at h2 ⊢
    rw [List.getD_eq_getElem?_getD, List.getElem?_set_ne (by omega), ← List.getD_eq_getElem?_getD]
    exact h2
theorem LotteryLots_pure (a0 a1 : Int) : ∃ k, cohousinglaw22_LotteryLots.f k a0 a1 = some true := by
  refine Ev.rounds (g := fun k => cohousinglaw22_LotteryLots.f k a0 a1) ?_
  refine evSome head_f (Ev.bind (lots_ev a0 a1) ?_)
  have bad : (isR a0 && inB a1 0 64) = false → Ev (fun k => cohousinglaw22_LotteryLots.j0 k a1 true (lotsF a0 a1).1 (lotsF a0 a1).2 true) true := fun h => by
    unfold lotsF
    rw [h, if_neg (by decide)]
    refine ⟨1, fun k hk => ?_⟩
    obtain ⟨m, rfl⟩ : ∃ m, k = m + 1 := ⟨k - 1, by omega⟩
    simp [cohousinglaw22_LotteryLots.j0]
  by_cases h1 : a0 < 0
  · exact evPos h1 (bad (by unfold isR inB; rw [decide_eq_false (by omega)]; rfl))
  · refine evNeg h1 ?_
    by_cases h2 : a0 ≥ 1073741789
    · exact evPos h2 (bad (by unfold isR inB; rw [decide_eq_false (show ¬ a0 ≤ 1073741788 by omega), Bool.and_false]; rfl))
    · refine evNeg h2 ?_
      by_cases h3 : a1 < 0
      · exact evPos h3 (bad (by unfold isR inB; rw [decide_eq_false (show ¬ 0 ≤ a1 by omega), Bool.false_and, Bool.and_false]))
      · refine evNeg h3 ?_
        by_cases h4 : a1 > 64
        · rw [decide_eq_true h4]
          exact bad (by unfold isR inB; rw [decide_eq_false (show ¬ a1 ≤ 64 by omega), Bool.and_false, Bool.and_false])
        · rw [decide_eq_false h4]
          obtain ⟨m, rfl⟩ := Int.eq_ofNat_of_zero_le (show 0 ≤ a1 by omega)
          have hv : (isR a0 && inB (m : Int) 0 64) = true := by
            unfold isR inB
            rw [decide_eq_true (show 0 ≤ a0 by omega), decide_eq_true (show a0 ≤ 1073741788 by omega), decide_eq_true (show (0 : Int) ≤ m by omega), decide_eq_true (show (m : Int) ≤ 64 by omega)]; rfl
          unfold lotsF
          rw [if_pos hv, Int.toNat_natCast]
          have hp := lotsGo_perm (m - 1) a0 (firstN m) (by rw [firstN_len]; omega)
          generalize lotsGo (m - 1) a0 (firstN m) = l at hp
          have hlen : l.length = m := by rw [hp.length_eq, firstN_len]
          have hnd : l.Nodup := hp.nodup_iff.2 (firstN_nodup m)
          have hmem : ∀ x ∈ l, 1 ≤ x ∧ x ≤ (m : Int) := fun x hx => firstN_mem.1 (hp.mem_iff.1 hx)
          refine Ev.step (fun k => by rw [cohousinglaw22_LotteryLots.j0]) (evNeg (by decide) (evPos (by decide) ?_))
          have h : ∀ d i : Nat, d = l.length - i → i ≤ l.length → Ev (fun k => cohousinglaw22_LotteryLots.l0 k (m : Int) true l 0 (seenL (l.take i)) l (l.length : Int) (i : Int)) true := by
            intro d
            induction d with
            | zero =>
              intro i hd hi
              obtain rfl : i = l.length := by omega
              refine Ev.step (fun k => by rw [cohousinglaw22_LotteryLots.l0]) (evNeg (by omega) (evPos rfl (evPos rfl ?_)))
              rw [hlen]
              exact evEq (Ev.now _) (by simp)
            | succ d ih =>
              intro i hd hi
              have hlt : i < l.length := by omega
              have hx := hmem _ (rd_mem hlt)
              have hns : rd l (i : Int) ∉ l.take i := by
                rw [rdI_get hlt]
                intro hc
                obtain ⟨j, hj, he⟩ := List.getElem_of_mem hc
                rw [List.getElem_take] at he
                rw [List.length_take] at hj
                have := (List.nodup_iff_pairwise_ne.1 hnd)
                exact List.pairwise_iff_getElem.1 this j i (by omega) hlt (by omega) he
              have h2 := ih (i + 1) (by omega) (by omega)
              refine Ev.step (fun k => by rw [cohousinglaw22_LotteryLots.l0]) (evPos (by omega) (evPos (by omega) (evPos (by omega) (evNeg (by omega) (evNeg (by omega) (evPos (by omega) (evPos (by rw [seenL_len]; omega) (evNeg ?_ ?_))))))))
              · rw [seenL_at (l.take i) (fun y hy => by have := hmem y (List.mem_of_mem_take hy); omega) _ (by omega) (by omega) hns]; decide
              · rw [wrap_succ hlt (by omega)]
                rw [rd_take_succ hlt, seenL_snoc] at h2
                exact h2
          exact h l.length 0 rfl (Nat.zero_le _)
theorem LotteryLots_calls (a0 a1 : Int) (w : World) (w0 : (Lit.int .i64 a0).wf = true) (w1 : (Lit.int .i64 a1).wf = true) (hg : Gl w) :
    Calls Tryd.prog 9 #[.int .i64 a0, .int .i64 a1] w fun e w' => e = .returned (.bool true) ∧ Below w.heap.size w w' := by
  obtain ⟨k, hk⟩ := LotteryLots_pure a0 a1
  exact cohousinglaw22_LotteryLots.calls k a0 a1 true w hk hg
end Go.Proofs.YtfkeelccnomjkaaDoor.P
