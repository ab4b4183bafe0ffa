/- P33.6, the plain law: with two neighbouring entries exchanged, a ledger has the same accounts and balances. -/
import Derived.Test.YtnheelncgpgkiaaPureBase
import Derived.Test.YtnheelncgpgkiaaPXcohousinglaw33LedgerOrder
namespace Go.Proofs.Ytnheelncgpgkiaa.P
open Go.RowKit Go.Proofs.YtnheelncgpgkiaaW.PrintWords Go.Proofs.Ytnheelncgpgkiaa.M
set_option linter.unusedVariables false

theorem balF_perm (s : ByteArray) (day known : Int) {l m : List S24} (h : l.Perm m) : balF s day known l = balF s day known m := by
  induction h with
  | nil => rfl
  | cons x _ ih => simp only [balF, ih]
  | swap x y l => simp only [balF]; omega
  | trans _ _ ih1 ih2 => exact ih1.trans ih2
theorem validL_perm {l m : List S24} (h : l.Perm m) : validL l = validL m := by
  unfold validL
  rw [h.length_eq, Bool.eq_iff_iff]
  simp only [Bool.and_eq_true, decide_eq_true_eq, List.all_eq_true]
  rw [(h.map S24.f0).nodup_iff]
  constructor
  · rintro ⟨⟨h1, h2⟩, h3⟩; exact ⟨⟨h1, fun x hx => h2 x (h.mem_iff.2 hx)⟩, h3⟩
  · rintro ⟨⟨h1, h2⟩, h3⟩; exact ⟨⟨h1, fun x hx => h2 x (h.mem_iff.1 hx)⟩, h3⟩
theorem namesL_perm {l m : List S24} (h : l.Perm m) : namesL l = namesL m :=
  RisN.ext (ris_namesL l) (ris_namesL m) fun x => by
    rw [mem_namesL, mem_namesL]
    constructor
    · rintro ⟨y, hy, e⟩; exact ⟨y, h.mem_iff.1 hy, e⟩
    · rintro ⟨y, hy, e⟩; exact ⟨y, h.mem_iff.2 hy, e⟩
theorem balL_perm {l m : List S24} (h : l.Perm m) (s : ByteArray) (day known : Int) : balL l s day known = balL m s day known := by
  unfold balL; rw [balF_perm s day known h, validL_perm h]

theorem order_loop (l m : List S24) (hs : l.all smallE = true) (hs' : m.all smallE = true) (hp : l.Perm m) (day known : Int) (ns : List ByteArray) (hns : ∀ s ∈ ns, small s = true) (hl : ns.length ≤ 1000000) :
    ∀ n i : Nat, i + n = ns.length → Ev (fun k => cohousinglaw33_LedgerOrder.l0 k l day known true m ns (ns.length : Int) (i : Int)) true := by
  intro n
  induction n with
  | zero =>
    intro i hi
    exact Ev.step (fun k => by rw [cohousinglaw33_LedgerOrder.l0]) (evNeg (by omega) (Ev.now _))
  | succ n ih =>
    intro i hi
    have hlt : i < ns.length := by omega
    refine Ev.step (fun k => by rw [cohousinglaw33_LedgerOrder.l0]) (evPos (by omega) (evPos (by omega) (evPos (by omega) ?_)))
    rw [rdOf_get _ hlt]
    have hsm := hns _ (List.getElem_mem hlt)
    refine evSome (balance_f hs hsm day known) (evSome (balance_f hs' hsm day known) (evPos rfl ?_))
    rw [balL_perm hp]
    refine evPos rfl ?_
    rw [wrap_succ hlt (by omega), show ((balL m ns[i] day known).2 == (balL m ns[i] day known).2) = true by simp]
    exact ih (i + 1) (by omega)

theorem LedgerOrder_pure (l : List S24) (a1 : Int) (acc : ByteArray) (day known : Int) (wl : l.length ≤ maxLen ∧ ∀ x ∈ l, wfE x) (wu : (Lit.int .u8 a1).wf = true) (wa : acc.size ≤ maxLen)
    (w3 : (Lit.int .i64 day).wf = true) (w4 : (Lit.int .i64 known).wf = true) :
    ∃ k, cohousinglaw33_LedgerOrder.f k l a1 acc day known = some true := by
  have hs := smallL_of wl.2
  have ha := small_of wa
  have hl : l.length ≤ 9223372036854775807 := by have := wl.1; simp only [maxLen] at this; omega
  have hu8 : 0 ≤ a1 ∧ a1 ≤ 255 := by
    have h : (Lit.int .u8 a1).wf = true := wu
    simp [Lit.wf, IntKind.min, IntKind.max, IntKind.signed, IntKind.bits] at h
    omega
  refine Ev.rounds (g := fun k => cohousinglaw33_LedgerOrder.f k l a1 acc day known) ?_
  refine evSome (show cohousinglaw33_head.f = some true from rfl) ?_
  have out : Ev (fun k => cohousinglaw33_LedgerOrder.j0 k l a1 acc day known true true) true := Ev.step (fun k => by rw [cohousinglaw33_LedgerOrder.j0]) (evPos rfl (Ev.now _))
  refine Ev.bind (usable_ev l hl day known) (evIte (fun hu => ?_) (fun hu => out))
  simp only [Bool.and_eq_true] at hu
  obtain ⟨⟨⟨hf, hv⟩, _⟩, _⟩ := hu
  have hl60 : l.length ≤ 60 := by
    unfold fewL at hf
    simp only [Bool.and_eq_true, decide_eq_true_eq] at hf
    exact hf.1
  by_cases h2 : (l.length : Int) < 2
  · rw [decide_eq_true h2]; exact out
  rw [decide_eq_false h2]
  obtain ⟨kk, hkk⟩ : ∃ kk : Nat, kk = a1.toNat % (l.length - 1) := ⟨_, rfl⟩
  have hlt : kk < l.length - 1 := by rw [hkk]; exact Nat.mod_lt _ (by omega)
  have hw : wrap64 ((l.length : Int) - 1) = ((l.length - 1 : Nat) : Int) := by rw [Go.IntWalk.wrap64_in _ (by omega)]; omega
  have hk : Int.tmod (wrap64 a1) (wrap64 ((l.length : Int) - 1)) = (kk : Int) := by
    rw [hw, Go.IntWalk.wrap64_in _ (by omega), hkk, Int.tmod_eq_emod_of_nonneg hu8.1, Int.natCast_emod, Int.toNat_of_nonneg hu8.1]
  have hk1 : wrap64 ((kk : Int) + 1) = ((kk + 1 : Nat) : Int) := wrap_succ (n := l.length) (by omega) (by omega)
  obtain ⟨M, hM⟩ : ∃ M, M = (l.set kk (rd_T24 l ((kk + 1 : Nat) : Int))).set (kk + 1) (rd_T24 l (kk : Int)) := ⟨_, rfl⟩
  have hp : M.Perm l := by
    rw [hM, rd_get (show kk + 1 < l.length by omega), rd_get (show kk < l.length by omega)]
    exact List.set_set_perm (show kk < l.length by omega) (show kk + 1 < l.length by omega)
  have hsM : M.all smallE = true := List.all_eq_true.2 fun x hx => List.all_eq_true.1 hs x (hp.mem_iff.1 hx)
  have hMlen : M.length = l.length := hp.length_eq
  have haL : accL M = accL l := by unfold accL; rw [validL_perm hp, namesL_perm hp]
  have hN := len_namesL l
  refine Ev.step (fun k => by rw [cohousinglaw33_LedgerOrder.j0]) (evNeg (by decide) ?_)
  rw [hk, hk1, hw]
  refine evNeg (by omega) (evSome rfl (evPos (by simp; omega) (evSome rfl ?_)))
  refine evPos (by omega) (evPos (by omega) (evPos (by omega) (evPos (by omega) (evPos (by simp; omega) (evPos (by simp; omega) ?_)))))
  refine evSome (a := M) (by rw [Int.toNat_natCast, Int.toNat_natCast, List.nil_append, hM]) ?_
  refine evSome (accounts_f hs) (evSome (accounts_f hsM) (evPos rfl ?_))
  rw [haL]
  have la : (accL l).1.length ≤ 9223372036854775807 := by
    unfold accL
    rw [if_pos hv]
    show (namesL l).length ≤ _; omega
  refine evPos rfl (Ev.bind (sameNames_ev _ la) (evPos rfl (evSome (valid_f hsM) ?_)))
  rw [validL_perm hp, hv]
  refine Ev.step (fun k => by rw [cohousinglaw33_LedgerOrder.j1]) ?_
  rw [hk1]
  refine evPos (by omega) (evPos (by omega) (evPos (by omega) (evPos (by omega) (evSome rfl ?_))))
  have hsm : ∀ j : Nat, j < l.length → small (rd_T24 l (j : Int)).f4 = true ∧ small (rd_T24 l (j : Int)).f5 = true := by
    intro j hj
    have := all_rd hs hj
    unfold smallE at this
    rwa [Bool.and_eq_true] at this
  refine order_loop l M hs hsM hp.symm day known [acc, (rd_T24 l (kk : Int)).f4, (rd_T24 l (kk : Int)).f5, (rd_T24 l ((kk + 1 : Nat) : Int)).f4] (fun s h => ?_) (by simp) 4 0 (by simp)
  simp only [List.mem_cons, List.not_mem_nil, or_false] at h
  rcases h with rfl | rfl | rfl | rfl
  · exact ha
  · exact (hsm kk (by omega)).1
  · exact (hsm kk (by omega)).2
  · exact (hsm (kk + 1) (by omega)).1
end Go.Proofs.Ytnheelncgpgkiaa.P
