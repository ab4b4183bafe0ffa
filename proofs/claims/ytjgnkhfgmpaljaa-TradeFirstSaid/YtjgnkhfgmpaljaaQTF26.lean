/- Lemmas, readings of functions as plain Lean functions and contracts of functions of the program, for the claimed theorem; each one's conditions stand in its statement. -/
import Derived.Test.YtjgnkhfgmpaljaaQTF24
import Derived.Test.YtjgnkhfgmpaljaaQTF25
namespace Go.Proofs.Ytjgnkhfgmpaljaa.P
open Go.RowKit Go.Proofs.YtjgnkhfgmpaljaaW.PrintWords Go.Proofs.YtjgnkhfgmpaljaaW.PrintLast Go.Proofs.YtjgnkhfgmpaljaaW.PrintMore Go.Proofs.Ytjgnkhfgmpaljaa.M
open Go.Proofs.Ytjgnkhfgmpaljaa
set_option linter.unusedVariables false
set_option linter.unusedSimpArgs false
theorem inZ_idx {x : Int} : ∀ (l : List Int) (k : Nat), x ∈ l → inZ x k l = ((k + l.idxOf x : Nat) : Int)
  | a :: l, k, h => by
    unfold inZ
    by_cases e : a = x
    · subst e; simp
    · rw [if_neg e, inZ_idx l (k + 1) ((List.mem_cons.1 h).resolve_left (fun h => e h.symm)), List.idxOf_cons]
      have hb : (a == x) = false := by simpa using e
      rw [hb]; simp; omega
/-- What holds of a usable market. -/
theorem use_fine {F : List S53} {P : List S41} {ord : List Int} (hu : useR F P ord = true) (hF : ∀ x ∈ F, okI x.f0 ∧ okI x.f1) (hP : ∀ p ∈ P, okI p.f1 ∧ ∀ f ∈ p.f2, okI f) : okB F P ord = true ∧ okIn F P ord = true ∧ Fine P ord := by
  unfold useR at hu
  rw [Bool.and_eq_true, Bool.and_eq_true, decide_eq_true_eq] at hu
  obtain ⟨h1, h2, h3⟩ := hu
  obtain ⟨h4, h5, h6⟩ := fewR_iff.1 h1
  have hok : ∀ x ∈ P, x.f2.length ≤ 64 ∧ okI x.f1 ∧ ∀ f ∈ x.f2, okI f := fun x hx => ⟨by have := h6 x hx; omega, hP x hx⟩
  exact ⟨h3, okIn_iff.2 ⟨by omega, by omega, hF, hok⟩, fine_of h3 (by omega) hok⟩
/-- What each party gets. -/
theorem gets {P : List S41} {ord : List Int} (h : Fine P ord) : (finalG P ord).tos.length = P.length ∧ ∀ p : Nat, p < P.length → (T.final (datG P ord)).A p = some (rd (finalG P ord).tos (p : Int)) ∧ rd (finalG P ord).tos (p : Int) ∈ rankL (ownP P p) (wantsP P p) := by
  have hB := (final_bind h).2
  have hwf := fine_wf h
  obtain ⟨hI, hall, _, _⟩ := T.out_inv hwf (T.out_final hwf) (T.inv0 hwf)
  refine ⟨hB.tl, fun p hp => ?_⟩
  have h1 := hB.tos p hp
  cases ha : (T.final (datG P ord)).A p with
  | none => exact absurd ha (hall p hp)
  | some f =>
    rw [ha] at h1
    have h1 : rd (finalG P ord).tos (p : Int) = f := h1
    rw [h1]
    exact ⟨rfl, hI.rk p f hp ha⟩
theorem rank_len {P : List S41} {p : Nat} (h : (wantsP P p).length ≤ 64) : (rankL (ownP P p) (wantsP P p)).length ≤ 1000 := by
  unfold rankL
  have := (List.takeWhile_sublist (l := wantsP P p) (fun f => decide (f ≠ ownP P p))).length_le
  simp only [List.length_append, List.length_singleton]; omega
theorem first_pure (F : List S53) (P : List S41) (ord : List Int) (hF : ∀ x ∈ F, okI x.f0 ∧ okI x.f1) (hP : ∀ p ∈ P, okI p.f1 ∧ ∀ f ∈ p.f2, okI f) : Ev (fun k => cohousinglaw24_TradeFirst.f k F P ord) true := by
  refine evSome rfl (Ev.bind (usable_ev F P ord) ?_)
  cases hu : useR F P ord with
  | false => exact evNeg (by decide) (Ev.step (fun k => by rw [cohousinglaw24_TradeFirst.j0]) (evPos rfl (Ev.now _)))
  | true =>
    refine evPos rfl (Ev.step (fun k => by rw [cohousinglaw24_TradeFirst.j0]) ?_)
    by_cases hz : P.length = 0
    · exact evPos (by simp [hz]) (Ev.now _)
    · refine evNeg (by intro h; have h := eq_of_beq h; omega) ?_
      obtain ⟨hb, hi, hfine⟩ := use_fine hu hF hP
      obtain ⟨htl, hg⟩ := gets hfine
      have hwf := fine_wf hfine
      have hol := hfine.ol
      have hPl := hfine.n
      obtain ⟨q0, q1⟩ := hfine.ob _ (rd_mem (l := ord) (i := 0) (by omega))
      obtain ⟨p, hp⟩ : ∃ p : Nat, rd ord ((0 : Nat) : Int) = p := ⟨(rd ord ((0 : Nat) : Int)).toNat, by omega⟩
      have hp0 : rd ord 0 = p := hp
      have hpn : p < P.length := by omega
      have hFl : F.length ≤ 20 := by unfold useR at hu; rw [Bool.and_eq_true] at hu; exact (fewR_iff.1 hu.1).1
      refine Ev.bind (solved_ev hi hb htl) (evPos rfl (evPos (by omega) (evPos (by omega) (evPos (by omega) ?_))))
      rw [hp0]
      have hwl := (hfine.ok _ (rd41_mem hpn)).1
      refine Ev.bind (ranking_ev _ _ _ (by omega)) ?_
      have hrl := rank_len (P := P) (p := p) hwl
      have hrk : rankL (rd_T41 P (p : Int)).f1 (rd_T41 P (p : Int)).f2 = rankL (ownP P p) (wantsP P p) := rfl
      rw [hrk]
      have hfirst : ∀ A : T.Asg, A p = none → T.first (datG P ord) A = p := fun A ha => by
        unfold T.first
        have : (datG P ord).order = p :: (ord.drop 1).map Int.toNat := by
          show ord.map Int.toNat = _
          conv => lhs; rw [← List.drop_zero (l := ord), dropc (show 0 < ord.length by omega), hp]
          simp
        rw [this, List.find?_cons, ha]; rfl
      have key : ∀ f ∈ F, occR P f.f0 = false → f.f0 ∈ rankL (ownP P p) (wantsP P p) → (rankL (ownP P p) (wantsP P p)).idxOf (rd (finalG P ord).tos (p : Int)) ≤ (rankL (ownP P p) (wantsP P p)).idxOf f.f0 := fun f hf ho hm => by
        have hvf : flatsB 0 F = true := by unfold okB validG at hb; rw [Bool.and_eq_true, Bool.and_eq_true] at hb; exact hb.1.1
        have hpos := flats_pos (Int.le_refl _) hvf f hf
        refine T.first_free hwf hpn hfirst (by omega) (fun q hq e => ?_) (T.out_final hwf) (T.inv0 hwf) rfl (by unfold T.takenB; simp) _ (hg p hpn).1 hm
        have : occR P f.f0 = true := by
          unfold occR
          rw [List.any_eq_true]
          exact ⟨_, rd41_mem (show q < P.length from hq), decide_eq_true e⟩
        rw [ho] at this; cases this
      have loop : ∀ d i : Nat, d = F.length - i → i ≤ F.length → Ev (fun k => cohousinglaw24_TradeFirst.l0 k true (finalG P ord).tos (p : Int) (rankL (ownP P p) (wantsP P p)) F (F.length : Int) (i : Int) F P) true := by
        intro d
        induction d with
        | zero =>
          intro i hd hi
          obtain rfl : i = F.length := by omega
          exact Ev.step (fun k => by rw [cohousinglaw24_TradeFirst.l0]) (evNeg (by omega) (Ev.now _))
        | succ d ih =>
          intro i hd hi
          have hlt : i < F.length := by omega
          have h2 := ih (i + 1) (by omega) (by omega)
          have hmem : rd_T53 F (i : Int) ∈ F := by rw [rd53_get hlt]; exact List.getElem_mem hlt
          refine Ev.step (fun k => by rw [cohousinglaw24_TradeFirst.l0]) (evPos (by omega) (evPos (by omega) (evPos (by omega) (Ev.bind (in_ev _ _ (by omega)) (Ev.bind (occupied_ev F P _ (by omega)) ?_)))))
          rw [wrap_succ hlt (by omega)]
          cases ho : occR P (rd_T53 F (i : Int)).f0 with
          | true => exact evPos rfl h2
          | false =>
            refine evNeg (by decide) (evIte (fun h3 => ?_) (fun h3 => h2))
            refine evPos (by omega) (evPos (by omega) (Ev.bind (in_ev _ _ (by omega)) (evNeg ?_ h2)))
            have hm : (rd_T53 F (i : Int)).f0 ∈ rankL (ownP P p) (wantsP P p) := by
              refine Decidable.byContradiction fun hn => ?_
              have := (inZ_neg _ _ 0).2 hn
              omega
            rw [inZ_idx _ 0 hm, inZ_idx _ 0 (hg p hpn).2]
            have := key _ hmem ho hm
            omega
      exact loop F.length 0 rfl (Nat.zero_le _)
end Go.Proofs.Ytjgnkhfgmpaljaa.P
