/- What the reference implementation of layer 33 computes: posting, taking back, balances, accounts. -/
import Derived.Test.YtnheelncgpgkiaaRef33
namespace Go.Proofs.Ytnheelncgpgkiaa.P
open Go.RowKit Go.Proofs.YtnheelncgpgkiaaW.PrintWords Go.Proofs.Ytnheelncgpgkiaa.M
set_option linter.unusedVariables false
set_option linter.unusedSimpArgs false

theorem idF_find {l : List S24} (hv : validL l = true) (id : Int) : (idF l id = none ∧ ∀ m : Nat, m < l.length → (rd_T24 l (m : Int)).f0 ≠ id) ∨ ∃ j : Nat, j < l.length ∧ idF l id = some (rd_T24 l (j : Int)) ∧ (rd_T24 l (j : Int)).f0 = id ∧ ∀ m : Nat, m < j → (rd_T24 l (m : Int)).f0 ≠ id := by
  have hnd : (l.map S24.f0).Nodup := by
    unfold validL at hv
    simp only [Bool.and_eq_true, decide_eq_true_eq] at hv
    exact hv.2
  rw [nodup_rd] at hnd
  cases h : idF l id with
  | none =>
    refine .inl ⟨rfl, fun m hm he => ?_⟩
    have := (idF_isSome l id).2 (List.mem_map.2 ⟨l[m], List.getElem_mem hm, by rw [← rd_get hm]; exact he⟩)
    rw [h] at this; cases this
  | some x =>
    obtain ⟨hx, hid⟩ := idF_spec h
    obtain ⟨j, hj, rfl⟩ := List.getElem_of_mem hx
    refine .inr ⟨j, hj, by rw [rd_get hj], by rw [rd_get hj]; exact hid, fun m hm he => ?_⟩
    refine hnd m j hm hj ?_
    rw [he, rd_get hj, hid]
theorem with_f {l : List S24} (hl : l.length ≤ 4000) (x : S24) : cohousingref33_with.f l x.f0 x.f1 x.f2 x.f3 x.f4 x.f5 = some (l ++ [x]) := by
  unfold cohousingref33_with.f
  rw [if_pos (by simp; omega), Option.bind_some, if_pos (by simp; omega)]
  rfl

/-! Post -/
theorem post_ev (l : List S24) (x : S24) : Ev (fun k => cohousingref33_Post.f k l x.f0 x.f1 x.f2 x.f3 x.f4 x.f5) (postL l x) := by
  refine Ev.bind (valid_ev l) (evIte (fun hv => ?_) (fun hv => ?_))
  · refine Ev.bind (entry_ev x) (Ev.step (fun k => by rw [cohousingref33_Post.j0]) ?_)
    have hlen := validL_len hv
    by_cases he : validE x = true
    · refine evNeg (by rw [he]; decide) ?_
      unfold postL postF
      rw [hv, he, Bool.and_self, if_pos rfl]
      by_cases h4 : l.length = 4000
      · refine evPos (by omega) (evEq (Ev.now _) ?_)
        rw [if_pos h4]
      · refine evNeg (by omega) ?_
        rw [if_neg h4]
        rcases idF_find hv x.f0 with ⟨h1, h2⟩ | ⟨j, hj, h1, h2, h3⟩
        · refine Ev.bind (find_none (by omega) h2) (evNeg (by decide) (evSome (with_f hlen x) (evEq (Ev.now _) ?_)))
          rw [h1, if_neg (by decide)]
        · refine Ev.bind (find_some (by omega) hj h2 h3) (evPos (by omega) (evEq (Ev.now _) ?_))
          rw [h1]; rfl
    · rw [Bool.not_eq_true] at he
      refine evPos (by rw [he]; rfl) (evEq (Ev.now _) ?_)
      unfold postL
      rw [he, Bool.and_false, if_neg (by decide)]
  · rw [Bool.not_eq_true] at hv
    refine Ev.step (fun k => by rw [cohousingref33_Post.j0]) (evPos rfl (evEq (Ev.now _) ?_))
    unfold postL
    rw [hv, Bool.false_and, if_neg (by decide)]

/-! Reverse -/
theorem reverse_ev (l : List S24) (id by_ day known : Int) : Ev (fun k => cohousingref33_Reverse.f k l id by_ day known) (revL l id by_ day known) := by
  unfold revL
  have no : Ev (fun k => cohousingref33_Reverse.j0 k l id by_ day known true) ([], 1) := Ev.step (fun k => by rw [cohousingref33_Reverse.j0]) (evPos rfl (Ev.now _))
  refine Ev.bind (valid_ev l) (evIte (fun hv => ?_) (fun hv => ?_))
  · refine evSome (number_f _) (evIte (fun hn => ?_) (fun hn => ?_))
    · refine evSome (day_f _) (evIte (fun hd => ?_) (fun hd => ?_))
      · refine evSome (day_f _) ?_
        rw [hv, hn, hd]
        simp only [Bool.true_and]
        by_cases hk : (decide (0 ≤ known) && decide (known ≤ 36524)) = true
        · rw [hk, if_pos rfl]
          have hlen := validL_len hv
          refine Ev.step (fun k => by rw [cohousingref33_Reverse.j0]) (evNeg (by decide) ?_)
          rcases idF_find hv id with ⟨h1, h2⟩ | ⟨j, hj, h1, h2, h3⟩
          · refine Ev.bind (find_none (by omega) h2) (evPos (by decide) (evEq (Ev.now _) ?_))
            rw [h1]
          · refine Ev.bind (find_some (by omega) hj h2 h3) (evNeg (by omega) ?_)
            rw [h1]
            unfold postF
            dsimp only
            by_cases h4 : l.length = 4000
            · refine evPos (by omega) (evEq (Ev.now _) ?_)
              rw [if_pos h4]
            · refine evNeg (by omega) ?_
              rw [if_neg h4]
              rcases idF_find hv by_ with ⟨h5, h6⟩ | ⟨i, hi, h5, h6, h7⟩
              · refine Ev.bind (find_none (by omega) h6) (evNeg (by decide) (evPos (by omega) (evPos (by omega) ?_)))
                refine evSome (with_f hlen ⟨by_, day, known, (rd_T24 l (j : Int)).f3, (rd_T24 l (j : Int)).f5, (rd_T24 l (j : Int)).f4⟩) (evEq (Ev.now _) ?_)
                rw [h5, if_neg (by decide)]
              · refine Ev.bind (find_some (by omega) hi h6 h7) (evPos (by omega) (evEq (Ev.now _) ?_))
                rw [h5]; rfl
        · rw [Bool.not_eq_true] at hk
          rw [hk, if_neg (by decide)]
          exact no
      · rw [Bool.not_eq_true] at hd; rw [hd, if_neg (by simp)]; exact no
    · rw [Bool.not_eq_true] at hn; rw [hn, if_neg (by simp)]; exact no
  · rw [Bool.not_eq_true] at hv; rw [hv, if_neg (by simp)]; exact no

/-! Balance -/
theorem balF_take (acc : ByteArray) (day known : Int) {l : List S24} {i : Nat} (h : i < l.length) : balF acc day known (l.take (i + 1)) = balF acc day known (l.take i) + amt (rd_T24 l (i : Int)) acc day known := by
  rw [take_snoc h, balF_append]
  simp [balF]
theorem balance_loop (l : List S24) (hv : validL l = true) (acc : ByteArray) (day known : Int) : ∀ n i : Nat, i + n = l.length →
    Ev (fun k => cohousingref33_Balance.l0 k l acc day known (balF acc day known (l.take i)) (i : Int)) (if (decide (-1000000000 ≤ balF acc day known l) && decide (balF acc day known l ≤ 1000000000)) = true then (balF acc day known l, 0) else (0, 3)) := by
  have hlen := validL_len hv
  have hall := validL_all hv
  intro n
  induction n with
  | zero =>
    intro i hi
    refine Ev.step (fun k => by rw [cohousingref33_Balance.l0]) (evNeg (by omega) ?_)
    rw [List.take_of_length_le (by omega)]
    refine evIte (fun h => evEq (Ev.now _) ?_) (fun h => evIte (fun h' => evEq (Ev.now _) ?_) (fun h' => evEq (Ev.now _) ?_))
    · rw [if_neg]; simp only [Bool.and_eq_true, decide_eq_true_eq]; omega
    · rw [if_neg]; simp only [Bool.and_eq_true, decide_eq_true_eq]; omega
    · rw [if_pos]; simp only [Bool.and_eq_true, decide_eq_true_eq]; omega
  | succ n ih =>
    intro i hi
    have hlt : i < l.length := by omega
    have hmem : rd_T24 l (i : Int) ∈ l := by rw [rd_get hlt]; exact List.getElem_mem hlt
    have hE := hall _ hmem
    have hb := balF_bound (l := l.take i) (fun x hx => hall x (List.mem_of_mem_take hx)) acc day known
    rw [List.length_take, Nat.min_eq_left (by omega)] at hb
    have hc := validE_cents hE
    have hne : ((rd_T24 l (i : Int)).f4.toList == (rd_T24 l (i : Int)).f5.toList) = false := by
      unfold validE at hE
      simp only [Bool.and_eq_true] at hE
      have := hE.2
      simpa using this
    have next : ∀ b, b = balF acc day known (l.take (i + 1)) → Ev (fun k => cohousingref33_Balance.l0 k l acc day known b (wrap64 ((i : Int) + 1))) (if (decide (-1000000000 ≤ balF acc day known l) && decide (balF acc day known l ≤ 1000000000)) = true then (balF acc day known l, 0) else (0, 3)) := by
      intro b hb'
      rw [wrap_succ hlt (by omega), hb']; exact ih (i + 1) (by omega)
    rw [balF_take acc day known hlt] at next
    generalize balF acc day known (l.take i) = s at *
    have hs : -4000000000000 ≤ s ∧ s ≤ 4000000000000 := by omega
    clear hb ih
    unfold amt at next
    refine Ev.step (fun k => by rw [cohousingref33_Balance.l0]) (evPos (by omega) (evPos (by omega) (evIte (fun h1 => ?_) (fun h1 => ?_))))
    · refine Ev.step (fun k => by rw [cohousingref33_Balance.j2]) (evPos rfl (next _ ?_))
      rw [if_pos (.inl h1)]; omega
    · refine Ev.step (fun k => by rw [cohousingref33_Balance.j2]) (evIte (fun h2 => next _ ?_) (fun h2 => ?_))
      · rw [decide_eq_true_eq] at h2
        rw [if_pos (.inr h2)]; omega
      · rw [decide_eq_true_eq] at h2
        rw [if_neg (by omega)] at next
        refine evPos (by omega) (evPos (by omega) (evIte (fun h4 => evIte (fun h5 => ?_) (fun h5 => next _ ?_)) (fun h4 => evIte (fun h5 => next _ ?_) (fun h5 => next _ ?_))))
        · rw [h4, h5] at hne; simp at hne
        · rw [if_pos (by rw [h4]; simp), Go.IntWalk.wrap64_in _ (by omega)]
        · rw [if_neg (by simpa using h4), if_pos (by rw [h5]; simp), Go.IntWalk.wrap64_in _ (by omega)]; omega
        · rw [if_neg (by simpa using h4), if_neg (by simpa using h5)]; omega
theorem balance_ev (l : List S24) (acc : ByteArray) (day known : Int) : Ev (fun k => cohousingref33_Balance.f k l acc day known) (balL l acc day known) := by
  unfold balL
  have no : Ev (fun k => cohousingref33_Balance.j0 k l acc day known true) (0, 1) := Ev.step (fun k => by rw [cohousingref33_Balance.j0]) (evPos rfl (Ev.now _))
  refine Ev.bind (valid_ev l) (evIte (fun hv => ?_) (fun hv => ?_))
  · refine Ev.bind (acc_ev acc) (evIte (fun hn => ?_) (fun hn => ?_))
    · refine evSome (day_f _) (evIte (fun hd => ?_) (fun hd => ?_))
      · refine evSome (day_f _) ?_
        rw [hv, hn, hd]
        simp only [Bool.true_and]
        by_cases hk : (decide (0 ≤ known) && decide (known ≤ 36524)) = true
        · rw [hk, if_pos rfl]
          refine Ev.step (fun k => by rw [cohousingref33_Balance.j0]) (evNeg (by decide) ?_)
          exact balance_loop l hv acc day known l.length 0 (by omega)
        · rw [Bool.not_eq_true] at hk
          rw [hk, if_neg (by decide)]
          exact no
      · rw [Bool.not_eq_true] at hd; rw [hd, if_neg (by simp)]; exact no
    · rw [Bool.not_eq_true] at hn; rw [hn, if_neg (by simp)]; exact no
  · rw [Bool.not_eq_true] at hv; rw [hv, if_neg (by simp)]; exact no

/-! put, Accounts -/
theorem putN_cons (a : ByteArray) (l : List ByteArray) (s : ByteArray) : putN (a :: l) s = if ltN s a then s :: a :: l else if s = a then a :: l else a :: putN l s := rfl
theorem put_loop (ns : List ByteArray) (s : ByteArray) (hl : ns.length ≤ 1000000) : ∀ n i : Nat, i + n = ns.length → ∀ (out : List ByteArray) (done : Bool), out.length ≤ i + 1 →
    (if done then out ++ ns.drop i = putN ns s else out = ns.take i ∧ putN ns s = ns.take i ++ putN (ns.drop i) s) → Ev (fun k => cohousingref33_put.l0 k ns s out done (i : Int)) (putN ns s) := by
  intro n
  induction n with
  | zero =>
    intro i hi out done hol hd
    refine Ev.step (fun k => by rw [cohousingref33_put.l0]) (evNeg (by omega) ?_)
    rw [List.drop_of_length_le (by omega), List.take_of_length_le (by omega)] at hd
    cases done with
    | true => exact evPos rfl (evEq (Ev.now _) (by simpa using hd))
    | false =>
      refine evNeg (by decide) (evPos (by omega) (evEq (Ev.now _) ?_))
      simp only [Bool.false_eq_true, if_false] at hd
      rw [hd.2, hd.1]; rfl
  | succ n ih =>
    intro i hi out done hol hd
    have hlt : i < ns.length := by omega
    have hdrop : ns.drop i = ns[i] :: ns.drop (i + 1) := List.drop_eq_getElem_cons hlt
    have next : ∀ (out : List ByteArray) (done : Bool), out.length ≤ i + 1 + 1 → (if done then out ++ ns.drop (i + 1) = putN ns s else out = ns.take (i + 1) ∧ putN ns s = ns.take (i + 1) ++ putN (ns.drop (i + 1)) s) → Ev (fun k => cohousingref33_put.l0 k ns s out done (wrap64 ((i : Int) + 1))) (putN ns s) := by
      intro out done h1 h2
      rw [wrap_succ hlt (by omega)]; exact ih (i + 1) (by omega) out done h1 h2
    refine Ev.step (fun k => by rw [cohousingref33_put.l0]) (evPos (by omega) ?_)
    rw [rdOf_get _ hlt]
    cases done with
    | true =>
      simp only [if_true] at hd
      refine evPos rfl (Ev.step (fun k => by rw [cohousingref33_put.j1]) (evNeg (by decide) (evPos (by omega) (evPos (by omega) (evPos (by omega) ?_)))))
      rw [rdOf_get _ hlt]
      refine next _ _ (by simp; omega) ?_
      rw [if_pos rfl, ← hd, hdrop]; simp
    | false =>
      simp only [Bool.false_eq_true, if_false] at hd
      obtain ⟨rfl, hp⟩ := hd
      refine evNeg (by decide) (evPos (by omega) ?_)
      rw [ltN_bytes, eq_bytes]
      have hlt' : (ns.take i).length = i := by rw [List.length_take]; omega
      rw [hdrop, putN_cons] at hp
      refine Ev.step (fun k => by rw [cohousingref33_put.j1]) ?_
      rw [rdOf_get _ hlt, ltN_bytes]
      by_cases h1 : ltN s ns[i]
      · rw [if_pos h1] at hp
        refine evPos (by rw [decide_eq_true h1]; rfl) (evPos (by omega) (evPos (by omega) (evPos (by rw [decide_eq_true h1]) (evPos (by omega) ?_))))
        refine evSome rfl (evPos (by simp; omega) (next _ _ (by simp; omega) ?_))
        rw [if_pos rfl, hp]; simp
      · rw [if_neg h1] at hp
        by_cases h2 : s = ns[i]
        · rw [if_pos h2] at hp
          refine evPos (by rw [decide_eq_true h2, Bool.or_true]) (evPos (by omega) (evPos (by omega) (evNeg (by rw [decide_eq_false h1]; decide) (evPos (by omega) (next _ _ (by simp; omega) ?_)))))
          rw [if_pos rfl, hp]; simp
        · rw [if_neg h2] at hp
          refine evNeg (by rw [decide_eq_false h1, decide_eq_false h2]; decide) (evPos (by omega) (evPos (by omega) (evPos (by omega) (next _ _ (by simp; omega) ?_))))
          rw [if_neg (by decide)]
          refine ⟨(List.take_succ_eq_append_getElem hlt).symm, ?_⟩
          rw [hp, List.take_succ_eq_append_getElem hlt, List.append_assoc]; rfl
theorem put_ev (ns : List ByteArray) (s : ByteArray) (hl : ns.length ≤ 1000000) : Ev (fun k => cohousingref33_put.f k ns s) (putN ns s) :=
  put_loop ns s hl ns.length 0 (by omega) [] false (by simp) (by rw [if_neg (by decide)]; exact ⟨by simp, by simp⟩)
theorem accounts_loop (l : List S24) (hl : l.length ≤ 4000) : ∀ n i : Nat, i + n = l.length → Ev (fun k => cohousingref33_Accounts.l0 k l (namesL (l.take i)) (i : Int)) (namesL l, 0) := by
  intro n
  induction n with
  | zero =>
    intro i hi
    refine Ev.step (fun k => by rw [cohousingref33_Accounts.l0]) (evNeg (by omega) (evEq (Ev.now _) ?_))
    rw [List.take_of_length_le (by omega)]
  | succ n ih =>
    intro i hi
    have hlt : i < l.length := by omega
    have h1 := len_namesL (l.take i)
    rw [List.length_take] at h1
    have h2 := len_putN_le (namesL (l.take i)) (rd_T24 l (i : Int)).f4
    refine Ev.step (fun k => by rw [cohousingref33_Accounts.l0]) (evPos (by omega) (evPos (by omega) ?_))
    refine Ev.bind (put_ev _ _ (by omega)) (Ev.bind (put_ev _ _ (by omega)) ?_)
    rw [wrap_succ hlt (by omega), ← namesL_snoc, ← take_snoc hlt]
    exact ih (i + 1) (by omega)
def accL (l : List S24) : List ByteArray × Int := if validL l = true then (namesL l, 0) else ([], 1)
theorem accounts_ev (l : List S24) : Ev (fun k => cohousingref33_Accounts.f k l) (accL l) := by
  unfold accL
  refine Ev.bind (valid_ev l) (evIte (fun hv => ?_) (fun hv => ?_))
  · rw [if_pos hv]
    have := accounts_loop l (validL_len hv) l.length 0 (by omega)
    exact this
  · rw [if_neg hv]; exact Ev.now _

/-! Same, SameNames -/
theorem same_loop (l : List S24) (hl : l.length ≤ 9223372036854775807) : ∀ n i : Nat, i + n = l.length → Ev (fun k => cohousingref33_Same.l0 k l l (i : Int)) true := by
  intro n
  induction n with
  | zero =>
    intro i hi
    exact Ev.step (fun k => by rw [cohousingref33_Same.l0]) (evNeg (by omega) (Ev.now _))
  | succ n ih =>
    intro i hi
    have hlt : i < l.length := by omega
    refine Ev.step (fun k => by rw [cohousingref33_Same.l0]) (evPos (by omega) (evPos (by omega) (evPos (by omega) (evNeg (by simp) ?_))))
    rw [wrap_succ hlt hl]
    exact ih (i + 1) (by omega)
theorem same_ev (l : List S24) (hl : l.length ≤ 9223372036854775807) : Ev (fun k => cohousingref33_Same.f k l l) true :=
  evPos rfl (same_loop l hl l.length 0 (by omega))
theorem sameNames_loop (l : List ByteArray) (hl : l.length ≤ 9223372036854775807) : ∀ n i : Nat, i + n = l.length → Ev (fun k => cohousingref33_SameNames.l0 k l l (i : Int)) true := by
  intro n
  induction n with
  | zero =>
    intro i hi
    exact Ev.step (fun k => by rw [cohousingref33_SameNames.l0]) (evNeg (by omega) (Ev.now _))
  | succ n ih =>
    intro i hi
    have hlt : i < l.length := by omega
    refine Ev.step (fun k => by rw [cohousingref33_SameNames.l0]) (evPos (by omega) (evPos (by omega) (evPos (by omega) (evPos rfl ?_))))
    rw [wrap_succ hlt hl]
    exact ih (i + 1) (by omega)
theorem sameNames_ev (l : List ByteArray) (hl : l.length ≤ 9223372036854775807) : Ev (fun k => cohousingref33_SameNames.f k l l) true :=
  evPos rfl (sameNames_loop l hl l.length 0 (by omega))
end Go.Proofs.Ytnheelncgpgkiaa.P
