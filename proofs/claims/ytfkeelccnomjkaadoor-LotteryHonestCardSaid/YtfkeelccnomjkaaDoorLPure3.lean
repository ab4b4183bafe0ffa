/- What players deal and open honestly. -/
import Derived.Test.YtfkeelccnomjkaaDoorLPure2
import Derived.Test.YtfkeelccnomjkaaDoorGDraw
import Derived.Test.YtfkeelccnomjkaaDoorPXcohousinglaw22dealt
namespace Go.Proofs.YtfkeelccnomjkaaDoor.P
open Go.RowKit Go.Proofs.YtfkeelccnomjkaaDoorW.PrintWords Go.Proofs.YtfkeelccnomjkaaDoorW.PrintLast Go.Proofs.YtfkeelccnomjkaaDoorW.PrintMore Go.Proofs.YtfkeelccnomjkaaDoor.M Go.Proofs.YtfkeelccnomjkaaDoor.QF
set_option linter.unusedVariables false
set_option linter.unusedSimpArgs false
theorem rd58_get {l : List S58} {i : Nat} (h : i < l.length) : rd_T58 l (i : Int) = l[i] := by
  unfold rd_T58
  rw [Int.toNat_natCast, List.getD_eq_getElem?_getD, List.getElem?_eq_getElem h]; rfl
theorem rd58_mem {l : List S58} {i : Nat} (h : i < l.length) : rd_T58 l (i : Int) ∈ l := by rw [rd58_get h]; exact List.getElem_mem h
def okU (a : Int) : Prop := 0 ≤ a ∧ a ≤ 4294967295
def okP (l : List S58) : Prop := ∀ x ∈ l, okU x.f0 ∧ okU x.f1 ∧ ∀ c ∈ x.f2, okU c
theorem residue_f {a : Int} (h : okU a) : cohousinglaw22_residue.f a = some (a % 1073741789) := by
  unfold okU at h
  unfold cohousinglaw22_residue.f
  rw [wrap_ok (by omega), tmod_pos h.1]
def coefP (c : List Int) (k : Nat) : Int := if k < c.length then rd c (k : Int) % 1073741789 else 0
def coefsP (c : List Int) (n : Nat) : List Int := (List.range n).map (coefP c)
theorem coefsP_succ (c : List Int) (n : Nat) : coefsP c (n + 1) = coefsP c n ++ [coefP c n] := by simp [coefsP, List.range_succ]
theorem coefsP_len (c : List Int) (n : Nat) : (coefsP c n).length = n := by simp [coefsP]
theorem coefsP_rs (c : List Int) (n : Nat) : ∀ y ∈ coefsP c n, rs y := by
  intro y hy
  unfold coefsP at hy
  obtain ⟨k, _, rfl⟩ := List.mem_map.1 hy
  unfold coefP
  split
  · exact rs_mod _
  · exact ⟨by decide, by decide⟩
def valP (l : List S58) (i : Nat) : Int := (rd_T58 l (i : Int)).f0 % 1073741789
def saltP (l : List S58) (i : Nat) : Int := (rd_T58 l (i : Int)).f1 % 1073741789
def secP (l : List S58) (i : Nat) : S23 := ⟨(i : Int) + 1, valP l i, saltP l i⟩
def shP (l : List S58) (need i : Nat) : List S47 := dealSh (valP l i) (coefsP (rd_T58 l (i : Int)).f2 (need - 1)) l.length
def plP (l : List S58) (need i : Nat) : S31 := ⟨(i : Int) + 1, sumF ((i : Int) + 1) (valP l i) (saltP l i), shP l need i⟩
def plsP (l : List S58) (need k : Nat) : List S31 := (List.range k).map (plP l need)
def secsP (l : List S58) (k : Nat) : List S23 := (List.range k).map (secP l)
theorem plsP_succ (l : List S58) (need k : Nat) : plsP l need (k + 1) = plsP l need k ++ [plP l need k] := by simp [plsP, List.range_succ]
theorem secsP_succ (l : List S58) (k : Nat) : secsP l (k + 1) = secsP l k ++ [secP l k] := by simp [secsP, List.range_succ]
theorem plsP_len (l : List S58) (need k : Nat) : (plsP l need k).length = k := by simp [plsP]
theorem secsP_len (l : List S58) (k : Nat) : (secsP l k).length = k := by simp [secsP]
theorem rd_plsP (l : List S58) (need : Nat) {i k : Nat} (h : i < k) : rd_T31 (plsP l need k) (i : Int) = plP l need i := by
  rw [rd31_get (by rw [plsP_len]; exact h)]; simp [plsP]
theorem rd_secsP (l : List S58) {i k : Nat} (h : i < k) : rd_T23 (secsP l k) (i : Int) = secP l i := by
  rw [rd23_get (by rw [secsP_len]; exact h)]; simp [secsP]
theorem isR_mod (a : Int) : isR (a % 1073741789) = true := isR_iff.2 (rs_mod a)
theorem dealt1_ev {l : List S58} (ho : okP l) {need : Nat} (h1 : 1 ≤ need) (h2 : need ≤ l.length) (h3 : l.length ≤ 16) (pl : List S31) (op : List S23) (hpl : pl.length ≤ 16) (hop : op.length ≤ 16) (i : Nat) (hi : i < l.length) (r : List S31 × List S23 × Bool)
    (hk : Ev (fun k => cohousinglaw22_dealt.l0 k l (need : Int) (pl ++ [plP l need i]) (op ++ [secP l i]) l (l.length : Int) ((i + 1 : Nat) : Int)) r) :
    ∀ d m : Nat, d = (need - 1) - m → m ≤ need - 1 → Ev (fun k => cohousinglaw22_dealt.l1 k l (need : Int) pl op (i : Int) (coefsP (rd_T58 l (i : Int)).f2 m) (m : Int) l (l.length : Int) (i : Int) (rd_T58 l (i : Int)).f0 (rd_T58 l (i : Int)).f1 (rd_T58 l (i : Int)).f2 (rd_T58 l (i : Int)).f3 (rd_T58 l (i : Int)).f4 (rd_T58 l (i : Int)).f5 (rd_T58 l (i : Int)).f6) r := by
  have hx := ho _ (rd58_mem hi)
  have ew : wrap64 ((need : Int) - 1) = (need : Int) - 1 := wrap_ok (by omega)
  have ei : wrap64 ((i : Int) + 1) = (i : Int) + 1 := wrap_ok (by omega)
  intro d
  induction d with
  | zero =>
    intro m hd hm
    obtain rfl : m = need - 1 := by omega
    refine Ev.step (fun k => by rw [cohousinglaw22_dealt.l1]) ?_
    rw [ew, ei]
    refine evNeg (by omega) (evSome (residue_f hx.1) (evSome (residue_f hx.2.1) ?_))
    have hb : ∀ a : Int, okI (a % 1073741789) := fun a => by have := rs_mod a; unfold rs at this; unfold okI; omega
    refine Ev.bind (deal_ev (by unfold okI; omega) (hb _) (hb _)) ?_
    have hok : dealOk ((i : Int) + 1) ((rd_T58 l (i : Int)).f0 % 1073741789) ((rd_T58 l (i : Int)).f1 % 1073741789) (coefsP (rd_T58 l (i : Int)).f2 (need - 1)) (l.length : Int) = true := by
      unfold dealOk
      rw [isR_mod, isR_mod, show (coefsP (rd_T58 l (i : Int)).f2 (need - 1)).all isR = true from List.all_eq_true.2 fun y hy => isR_iff.2 (coefsP_rs _ _ y hy), coefsP_len]
      unfold inB
      simp
      omega
    unfold dealF
    rw [if_pos hok, Int.toNat_natCast]
    refine evPos rfl (evPos (by show ((dealSh _ _ _).length : Int) = _; rw [dealSh_len]) ?_)
    refine evSome rfl (evPos (by rw [List.length_singleton]; omega) (evSome rfl (evPos (by rw [List.length_singleton]; omega) ?_)))
    rw [show ((i + 1 : Nat) : Int) = (i : Int) + 1 by omega] at hk
    exact hk
  | succ d ih =>
    intro m hd hm
    have h4 := ih (m + 1) (by omega) (by omega)
    rw [coefsP_succ] at h4
    refine Ev.step (fun k => by rw [cohousinglaw22_dealt.l1]) ?_
    rw [ew]
    refine evPos (by omega) ?_
    have hl := coefsP_len (rd_T58 l (i : Int)).f2 m
    have e1 : wrap64 ((m : Int) + 1) = ((m + 1 : Nat) : Int) := by rw [wrap_ok (by omega)]; omega
    rw [e1]
    clear ew ei e1 ih
    by_cases hc : m < (rd_T58 l (i : Int)).f2.length
    · have e : coefP (rd_T58 l (i : Int)).f2 m = rd (rd_T58 l (i : Int)).f2 (m : Int) % 1073741789 := by unfold coefP; rw [if_pos hc]
      rw [e] at h4
      refine evPos (Int.ofNat_lt.2 hc) (evPos (Int.natCast_nonneg m) (evSome (residue_f (hx.2.2 _ (rd_mem hc))) ?_))
      refine evSome (a := [rd (rd_T58 l (i : Int)).f2 (m : Int) % 1073741789]) rfl ?_
      exact evPos (by rw [List.length_singleton, hl]; omega) h4
    · have e : coefP (rd_T58 l (i : Int)).f2 m = 0 := by unfold coefP; rw [if_neg hc]
      rw [e] at h4
      refine evNeg (by omega) ?_
      refine evSome (a := [0]) rfl ?_
      exact evPos (by rw [List.length_singleton, hl]; omega) h4
theorem dealt_ev {l : List S58} (ho : okP l) {need : Nat} (h1 : 1 ≤ need) (h2 : need ≤ l.length) (h3 : l.length ≤ 16) : Ev (fun k => cohousinglaw22_dealt.f k l (need : Int)) (plsP l need l.length, secsP l l.length, true) := by
  have h : ∀ d i : Nat, d = l.length - i → i ≤ l.length → Ev (fun k => cohousinglaw22_dealt.l0 k l (need : Int) (plsP l need i) (secsP l i) l (l.length : Int) (i : Int)) (plsP l need l.length, secsP l l.length, true) := by
    intro d
    induction d with
    | zero =>
      intro i hd hi
      obtain rfl : i = l.length := by omega
      exact Ev.step (fun k => by rw [cohousinglaw22_dealt.l0]) (evNeg (by omega) (Ev.now _))
    | succ d ih =>
      intro i hd hi
      have hlt : i < l.length := by omega
      have h4 := ih (i + 1) (by omega) (by omega)
      rw [plsP_succ, secsP_succ] at h4
      refine Ev.step (fun k => by rw [cohousinglaw22_dealt.l0]) (evPos (by omega) (evPos (by omega) (evPos (by omega) ?_)))
      exact dealt1_ev ho h1 h2 h3 _ _ (by rw [plsP_len]; omega) (by rw [secsP_len]; omega) i hlt _ h4 (need - 1) 0 rfl (Nat.zero_le _)
  exact h l.length 0 rfl (Nat.zero_le _)
/-! ### What Draw makes of it -/
section
variable {l : List S58} {need : Nat}
theorem shP_val (h1 : 1 ≤ need) (h2 : need ≤ l.length) (h3 : l.length ≤ 16) (i : Nat) : valF (shP l need i) need = (valP l i, true) := by
  have hlen : (shP l need i).length = l.length := dealSh_len _ _ _
  have hsub : ∀ x ∈ (shP l need i).take need, x ∈ shP l need i := fun x hx => List.mem_of_mem_take hx
  have hok : ((shP l need i).take need).all okS = true := by
    rw [List.all_eq_true]
    exact fun x hx => List.all_eq_true.1 (dealSh_ok h3) x (hsub x hx)
  have hnd : (ptsL ((shP l need i).take need)).Nodup := by
    have h := dealSh_nodup (valP l i) (coefsP (rd_T58 l (i : Int)).f2 (need - 1)) l.length
    unfold ptsL at h ⊢
    exact (List.Sublist.map _ (List.take_sublist need (shP l need i))).nodup h
  have hthr : ∀ x, thrF ((shP l need i).take need) x = atF (valP l i :: coefsP (rd_T58 l (i : Int)).f2 (need - 1)) x := fun x =>
    thr_on hok hnd (by rw [List.length_cons, coefsP_len, List.length_take, hlen]; omega) (fun y hy => dealSh_on _ _ _ y (hsub y hy)) x
  unfold valF
  rw [if_pos, hthr, atF_zero _ (show rs (valP l i) from rs_mod _)]
  rw [List.all_eq_true]
  intro y hy
  rw [hthr, decide_eq_true_eq]
  exact (dealSh_on _ _ _ y (List.mem_of_mem_drop hy)).symm
theorem plsP_ok (h1 : 1 ≤ l.length) (h3 : l.length ≤ 16) : pledgesB (plsP l need l.length) = true := by
  unfold pledgesB
  rw [plsP_len, Bool.and_eq_true]
  refine ⟨?_, by unfold inB; simp; omega⟩
  rw [allFrom_iff]
  intro i _ hi
  rw [rd_plsP l need hi]
  unfold okPl
  have hlen : (shP l need i).length = l.length := dealSh_len _ _ _
  rw [show (plP l need i).f0 = (i : Int) + 1 from rfl, show (plP l need i).f2 = shP l need i from rfl, hlen, decide_eq_true rfl, decide_eq_true rfl, Bool.true_and, Bool.true_and, allFrom_iff]
  intro k _ hk
  have hk' : k < (shP l need i).length := by rw [hlen]; exact hk
  have e : rd_T47 (shP l need i) (k : Int) = ⟨(k : Int) + 1, atF (valP l i :: coefsP (rd_T58 l (i : Int)).f2 (need - 1)) ((k : Int) + 1)⟩ := by
    rw [rd47_get hk']; simp [shP, dealSh]
  unfold okSh
  rw [e, decide_eq_true rfl, Bool.true_and]
  exact isR_iff.2 (atF_rs _ _)
/-- Who is in idx opens honestly. -/
def opI (l : List S58) (idx : List Nat) : List S23 := idx.map (secP l)
theorem opI_mem {idx : List Nat} {s : S23} (h : s ∈ opI l idx) : ∃ i ∈ idx, s = secP l i := by
  unfold opI at h
  obtain ⟨i, hi, rfl⟩ := List.mem_map.1 h
  exact ⟨i, hi, rfl⟩
theorem opI_who {idx : List Nat} {i : Nat} : ((i : Int) + 1) ∈ whosL (opI l idx) ↔ i ∈ idx := by
  unfold whosL opI
  rw [List.map_map, List.mem_map]
  constructor
  · rintro ⟨j, hj, h⟩
    have h' : (j : Int) + 1 = (i : Int) + 1 := h
    obtain rfl : j = i := by omega
    exact hj
  · intro h; exact ⟨i, h, rfl⟩
theorem opI_by (idx : List Nat) (i : Nat) : byF (opI l idx) ((i : Int) + 1) = if i ∈ idx then some (secP l i) else none := by
  by_cases h : i ∈ idx
  · rw [if_pos h]
    cases hb : byF (opI l idx) ((i : Int) + 1) with
    | none => exact absurd (opI_who.2 h) (byF_none.1 hb)
    | some s =>
      unfold byF at hb
      have hm := List.mem_of_find?_eq_some hb
      have hp := List.find?_some hb
      obtain ⟨j, hj, rfl⟩ := opI_mem hm
      have h' : (j : Int) + 1 = (i : Int) + 1 := of_decide_eq_true hp
      obtain rfl : j = i := by omega
      rfl
  · rw [if_neg h, byF_none]
    exact fun hm => h (opI_who.1 hm)
theorem opI_ok {idx : List Nat} (hn : idx.Nodup) (hi : ∀ i ∈ idx, i < l.length) : secretsB (opI l idx) l.length = true := by
  unfold secretsB
  rw [Bool.and_eq_true, decide_eq_true_eq, List.all_eq_true]
  refine ⟨fun s hs => ?_, ?_⟩
  · obtain ⟨i, h, rfl⟩ := opI_mem hs
    have := hi i h
    unfold okSec secP
    show (inB ((i : Int) + 1) 1 (l.length : Int) && (isR (valP l i) && isR (saltP l i))) = true
    unfold valP saltP
    rw [isR_mod, isR_mod]
    unfold inB
    simp
    omega
  · unfold whosL opI
    rw [List.map_map]
    refine List.Pairwise.map _ (fun a b (hab : a ≠ b) => ?_) (List.nodup_iff_pairwise_ne.1 hn)
    show ((a : Int) + 1) ≠ ((b : Int) + 1)
    omega
theorem opI_fits (idx : List Nat) (i : Nat) : fitsB (opI l idx) (plP l need i) = decide (i ∈ idx) := by
  unfold fitsB
  rw [show (plP l need i).f0 = (i : Int) + 1 from rfl, opI_by]
  by_cases h : i ∈ idx
  · rw [if_pos h, decide_eq_true h]
    exact decide_eq_true rfl
  · rw [if_neg h, decide_eq_false h]
theorem opI_cheat (h1 : 1 ≤ need) (h2 : need ≤ l.length) (h3 : l.length ≤ 16) (idx : List Nat) (i : Nat) : cheatB (opI l idx) need (plP l need i) = false := by
  unfold cheatB
  rw [show (plP l need i).f0 = (i : Int) + 1 from rfl, show (plP l need i).f2 = shP l need i from rfl, shP_val h1 h2 h3, opI_by]
  by_cases h : i ∈ idx
  · rw [if_pos h]
    show (!true || (!decide (sumF ((i : Int) + 1) (valP l i) (saltP l i) = sumF ((i : Int) + 1) (valP l i) (saltP l i)) || decide (valP l i ≠ valP l i))) = false
    simp
  · rw [if_neg h]; rfl
theorem opI_right {idx : List Nat} (hn : idx.Nodup) (hi : ∀ i ∈ idx, i < l.length) : rightN (plsP l need l.length) (opI l idx) = idx.length := by
  unfold rightN plsP
  rw [List.filter_map, List.length_map]
  have e : (fitsB (opI l idx) ∘ plP l need) = fun i => decide (i ∈ idx) := funext fun i => opI_fits idx i
  rw [e]
  apply Nat.le_antisymm
  · refine nodup_len _ _ (List.Nodup.sublist List.filter_sublist List.nodup_range) fun x hx => ?_
    have := (List.mem_filter.1 hx).2
    exact of_decide_eq_true this
  · refine nodup_len _ _ hn fun x hx => ?_
    exact List.mem_filter.2 ⟨List.mem_range.2 (hi x hx), decide_eq_true hx⟩
theorem opI_cheats (h1 : 1 ≤ need) (h2 : need ≤ l.length) (h3 : l.length ≤ 16) (idx : List Nat) : cheatsL (plsP l need l.length) (opI l idx) need = [] := by
  unfold cheatsL
  rw [List.map_eq_nil_iff, List.filter_eq_nil_iff]
  intro p hp
  unfold plsP at hp
  obtain ⟨i, _, rfl⟩ := List.mem_map.1 hp
  rw [opI_cheat h1 h2 h3]
  decide
theorem opI_draw (h1 : 1 ≤ need) (h2 : need ≤ l.length) (h3 : l.length ≤ 16) {idx : List Nat} (hn : idx.Nodup) (hi : ∀ i ∈ idx, i < l.length) :
    drawF (plsP l need l.length) (need : Int) (opI l idx) = if idx.length < need then (0, [], 33) else (seedF (plsP l need l.length) need, [], 0) := by
  unfold drawF
  rw [plsP_ok (by omega) h3, plsP_len, opI_ok hn hi, show inB (need : Int) 1 (l.length : Int) = true by unfold inB; simp; omega]
  rw [if_pos (by decide), opI_right hn hi, Int.toNat_natCast, opI_cheats h1 h2 h3]
  by_cases h : idx.length < need
  · rw [if_pos h, if_pos (by omega)]
  · rw [if_neg h, if_neg (by omega)]
theorem opI_okOp (idx : List Nat) (hi : ∀ i ∈ idx, i < l.length) (h3 : l.length ≤ 16) : okOp (opI l idx) := by
  intro s hs
  obtain ⟨i, h, rfl⟩ := opI_mem hs
  have := hi i h
  have hb : ∀ a : Int, okI (a % 1073741789) := fun a => by have := rs_mod a; unfold rs at this; unfold okI; omega
  exact ⟨by show okI ((i : Int) + 1); unfold okI; omega, hb _, hb _⟩
theorem secsP_opI (k : Nat) : secsP l k = opI l (List.range k) := rfl
def valsP (l : List S58) (k : Nat) : List Int := (List.range k).map (valP l)
theorem seedF_vals (h1 : 1 ≤ need) (h2 : need ≤ l.length) (h3 : l.length ≤ 16) : seedF (plsP l need l.length) need = addF (valsP l l.length) 0 := by
  unfold seedF plsP valsP addF
  rw [List.foldl_map, List.foldl_map]
  congr 1
  funext a i
  show (a + (valF (shP l need i) need).1) % 1073741789 = _
  rw [shP_val h1 h2 h3]
end
end Go.Proofs.YtfkeelccnomjkaaDoor.P
