/- LotteryHonest: players that deal honestly: the seed is the sum of their values, nobody cheated, whoever opens, if enough do: the law returns true, whatever the players and the number needed. -/
import Derived.Test.YtfkeelccnomjkaaDoorLPure3
import Derived.Test.YtfkeelccnomjkaaDoorGHead
import Derived.Test.YtfkeelccnomjkaaDoorPXcohousinglaw22LotteryHonest
import Derived.Test.YtfkeelccnomjkaaDoorOpenSL
namespace Go.Proofs.YtfkeelccnomjkaaDoor.P
open Go.RowKit Go.Proofs.YtfkeelccnomjkaaDoorW.PrintWords Go.Proofs.YtfkeelccnomjkaaDoorW.PrintLast Go.Proofs.YtfkeelccnomjkaaDoorW.PrintMore Go.Proofs.YtfkeelccnomjkaaDoor.M Go.Proofs.YtfkeelccnomjkaaDoor.QF
set_option linter.unusedVariables false
set_option linter.unusedSimpArgs false
/-- Who of those from i on opens, the last first. -/
def openI (l : List S58) (i n : Nat) : List Nat := ((List.range' i (n - i)).reverse).filter fun j => (rd_T58 l (j : Int)).f3
theorem openI_step (l : List S58) {i n : Nat} (h : i < n) : openI l i n = openI l (i + 1) n ++ if (rd_T58 l (i : Int)).f3 = true then [i] else [] := by
  unfold openI
  rw [show n - i = (n - (i + 1)) + 1 by omega, List.range'_succ, List.reverse_cons, List.filter_append]
  congr 1
  by_cases hc : (rd_T58 l (i : Int)).f3 = true
  · simp [hc]
  · simp [hc]
theorem openI_end (l : List S58) (n : Nat) : openI l n n = [] := by unfold openI; rw [Nat.sub_self]; rfl
theorem openI_nodup (l : List S58) (i n : Nat) : (openI l i n).Nodup := by
  unfold openI
  exact List.Nodup.sublist List.filter_sublist ((List.reverse_perm _).nodup_iff.2 List.nodup_range')
theorem openI_lt {l : List S58} {i n j : Nat} (h : j ∈ openI l i n) : j < n := by
  unfold openI at h
  have h2 := (List.mem_filter.1 h).1
  rw [List.mem_reverse, List.mem_range'_1] at h2
  omega
theorem openI_len (l : List S58) (i n : Nat) : (openI l i n).length ≤ n - i := by
  unfold openI
  refine Nat.le_trans (List.length_filter_le _ _) ?_
  rw [List.length_reverse, List.length_range']
  exact Nat.le_refl _
theorem valsP_len (l : List S58) (k : Nat) : (valsP l k).length = k := by simp [valsP]
theorem valsP_drop (l : List S58) {i k : Nat} (h : i < k) : (valsP l k).drop i = valP l i :: (valsP l k).drop (i + 1) := by
  rw [List.drop_eq_getElem_cons (by rw [valsP_len]; exact h)]
  congr 1
  simp [valsP]
theorem LotteryHonest_pure (l : List S58) (ho : okP l) (need : Int) : ∃ k, cohousinglaw22_LotteryHonest.f k l need = some true := by
  refine Ev.rounds (g := fun k => cohousinglaw22_LotteryHonest.f k l need) ?_
  refine evSome (show cohousinglaw22_head.f = some true from rfl) ?_
  have bad : Ev (fun k => cohousinglaw22_LotteryHonest.j0 k l need true true) true := Ev.step (fun k => by rw [cohousinglaw22_LotteryHonest.j0]) (evPos rfl (Ev.now _))
  refine evIte (fun _ => bad) fun q1 => evIte (fun _ => bad) fun q2 => evIte (fun _ => bad) fun q3 => ?_
  by_cases q4 : need > (l.length : Int)
  · rw [decide_eq_true q4]; exact bad
  rw [decide_eq_false q4]
  obtain ⟨m, rfl⟩ := Int.eq_ofNat_of_zero_le (show 0 ≤ need by omega)
  have h1 : 1 ≤ m := by omega
  have h2 : m ≤ l.length := by omega
  have h3 : l.length ≤ 16 := by omega
  clear q1 q2 q3 q4 bad
  refine Ev.step (fun k => by rw [cohousinglaw22_LotteryHonest.j0]) (evNeg (by decide) ?_)
  refine Ev.bind (dealt_ev ho h1 h2 h3) (evPos rfl ?_)
  have hfin : ∀ x9 : Int, rs x9 → Cg 1073741789 x9 (sumI (valsP l l.length)) → Ev (fun k => cohousinglaw22_LotteryHonest.l0 k l (m : Int) true (plsP l m l.length) (secsP l l.length) x9 (opI l (openI l 0 l.length)) ((-1 : Int))) true := by
    intro x9 hx hc
    have hseed : seedF (plsP l m l.length) m = x9 := by
      rw [seedF_vals h1 h2 h3]
      have h4 := addF_cg (valsP l l.length) 0
      rw [Int.zero_add] at h4
      exact (h4.trans hc.symm).eq (rs_addF _ ⟨by decide, by decide⟩) hx
    have hlt : ∀ i ∈ openI l 0 l.length, i < l.length := fun i hi => openI_lt hi
    have hrl : ∀ i ∈ List.range l.length, i < l.length := fun i hi => List.mem_range.1 hi
    have hol := openI_len l 0 l.length
    have e1 := opI_draw (need := m) h1 h2 h3 (l := l) List.nodup_range hrl
    rw [List.length_range, if_neg (by omega), hseed] at e1
    have e2 := opI_draw (need := m) h1 h2 h3 (l := l) (openI_nodup l 0 l.length) hlt
    rw [hseed] at e2
    have hlp : (opI l (openI l 0 l.length)).length = (openI l 0 l.length).length := by unfold opI; rw [List.length_map]
    refine Ev.step (fun k => by rw [cohousinglaw22_LotteryHonest.l0]) (evNeg (by decide) ?_)
    refine evSome (lottery_Draw.ok (m : Int) (by rw [plsP_len]; omega) (by rw [secsP_len]; omega) (by rw [secsP_opI]; exact opI_okOp _ hrl h3)) ?_
    refine evSome (lottery_Draw.ok (m : Int) (by rw [plsP_len]; omega) (by rw [hlp]; omega) (opI_okOp _ hlt h3)) ?_
    rw [secsP_opI, e1, e2]
    refine evPos rfl (evPos rfl ?_)
    refine Ev.step (fun k => by rw [cohousinglaw22_LotteryHonest.j2]) ?_
    refine evNeg (show ¬ ((((([] : List Int).length : Nat) : Int) != 0) = true) by decide) ?_
    rw [hlp]
    by_cases hc2 : (openI l 0 l.length).length < m
    · rw [if_pos hc2]
      exact evPos (by omega) (evPos rfl (Ev.now _))
    · rw [if_neg hc2]
      exact evNeg (by omega) (evPos rfl (evPos rfl (evPos rfl (Ev.now _))))
  have h : ∀ i : Nat, i ≤ l.length → ∀ x9 : Int, rs x9 → Cg 1073741789 x9 (sumI ((valsP l l.length).drop i)) → Ev (fun k => cohousinglaw22_LotteryHonest.l0 k l (m : Int) true (plsP l m l.length) (secsP l l.length) x9 (opI l (openI l i l.length)) ((i : Int) - 1)) true := by
    intro i
    induction i with
    | zero =>
      intro hi x9 hx hc
      exact hfin x9 hx hc
    | succ i ih =>
      intro hi x9 hx hc
      have hlt : i < l.length := by omega
      have hv : rs (valP l i) := rs_mod _
      have hx2 := rs_mod (x9 + valP l i)
      have h4 := ih (by omega) ((x9 + valP l i) % 1073741789) hx2 (by
        refine (cgm _).trans ?_
        rw [valsP_drop l hlt]
        show Cg 1073741789 (x9 + valP l i) (valP l i + sumI ((valsP l l.length).drop (i + 1)))
        rw [Int.add_comm x9]
        exact (Cg.refl _ _).add hc)
      have ei : (((i + 1 : Nat) : Int) - 1) = (i : Int) := by omega
      have ew : wrap64 ((i : Int) - 1) = (i : Int) - 1 := wrap_ok (by omega)
      have es : Int.tmod (wrap64 (x9 + (rd_T23 (secsP l l.length) (i : Int)).f1)) 1073741789 = (x9 + valP l i) % 1073741789 := by
        rw [rd_secsP l hlt]
        show Int.tmod (wrap64 (x9 + valP l i)) 1073741789 = _
        unfold rs at hx hv
        rw [wrap_ok (by omega), tmod_pos (by omega)]
      rw [ei]
      refine Ev.step (fun k => by rw [cohousinglaw22_LotteryHonest.l0]) ?_
      rw [es, ew]
      clear es ew ei ih
      refine evPos (by omega) (evPos (by omega) (evPos (by rw [secsP_len]; omega) (evPos (by omega) ?_)))
      rw [openI_step l hlt] at h4
      have hol := openI_len l (i + 1) l.length
      by_cases hf : (rd_T58 l (i : Int)).f3 = true
      · rw [if_pos hf] at h4
        refine evPos hf (evPos (by unfold opI; rw [List.length_map]; omega) ?_)
        rw [rd_secsP l hlt]
        unfold opI at h4 ⊢
        rw [List.map_append] at h4
        exact h4
      · rw [if_neg hf, List.append_nil] at h4
        exact evNeg hf h4
  have h5 := h l.length (Nat.le_refl _) 0 ⟨by decide, by decide⟩ (by rw [List.drop_eq_nil_of_le (by rw [valsP_len]; exact Nat.le_refl _)]; exact Cg.refl _ _)
  rw [openI_end] at h5
  rw [wrap_ok (by omega)]
  exact h5
theorem okP_of {l : List S58} (h : ∀ x ∈ l, wfS58 x) : okP l := fun x hx => ⟨wf_u32_bd (h x hx).1, wf_u32_bd (h x hx).2.1, fun c hc => wf_u32_bd ((h x hx).2.2.1.2 c hc)⟩
theorem LotteryHonest_calls (A0 : Option Addr) (c0 : Nat) (l : List S58) (need : Int) (w : World) (hr0 : Kd.C k58 w A0 l.length l) (hc0 : l.length ≤ c0)
    (w0 : l.length ≤ maxLen ∧ ∀ x ∈ l, wfS58 x) (w1 : (Lit.int .i64 need).wf = true) (hg : Gl w) :
    Calls Tryd.prog 6 #[.slice A0 l.length c0, .int .i64 need] w fun e w' => e = .returned (.bool true) ∧ Below w.heap.size w w' := by
  obtain ⟨k, hk⟩ := LotteryHonest_pure l (okP_of w0.2) need
  exact cohousinglaw22_LotteryHonest.calls k A0 c0 l need true w hr0 hc0 hk hg
end Go.Proofs.YtfkeelccnomjkaaDoor.P
