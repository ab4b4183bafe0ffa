/- P33.4, the walk of the law and its plain law in one: for all inputs LedgerReverses returns true. -/
import Derived.Test.YtnheelncgpgkiaaPureBase
import Derived.Deep.RegionHeld3
namespace Go.Proofs.Ytnheelncgpgkiaa.P
open Go.RowKit Go.Proofs.YtnheelncgpgkiaaW.PrintWords Go.Proofs.YtnheelncgpgkiaaW.PrintLast Go.Proofs.YtnheelncgpgkiaaW.PrintMore Go.Proofs.Ytnheelncgpgkiaa.M
open Go.Maps (keyOf_int_mk)
set_option linter.unusedVariables false
set_option linter.unusedSimpArgs false

theorem R_fresh {W : World} {base e : Nat} {α : Type} {d : Kd α} (hb : base ≤ W.heap.size) : d.R e (W.alloc (.cells #[] e)) base (fun _ => True) (.slice (some ⟨W.heap.size, 0, none⟩) 0 0) [] :=
  ⟨fun _ _ => trivial, [], by simpa using World.ownsRow_lit (base := base) (e := e) (size := d.sz) W #[] 0 hb (by decide) (by simp), Reps.none _ _⟩
def okR (l : List S24) (day known : Int) : Bool := fewL l && validL l && (decide (0 ≤ day) && decide (day ≤ 36524)) && (decide (0 ≤ known) && decide (known ≤ 36524))
theorem validL_without {l : List S24} (k : Nat) (h : validL l = true) : validL (l.take k ++ l.drop (k + 1)) = true := by
  unfold validL at h ⊢
  simp only [Bool.and_eq_true, decide_eq_true_eq] at h ⊢
  obtain ⟨⟨h1, h2⟩, h3⟩ := h
  have hsub : (l.take k ++ l.drop (k + 1)).Sublist l := by
    have := List.Sublist.append (List.Sublist.refl (l.take k)) (List.drop_sublist_drop_left l (Nat.le_succ k))
    rw [List.take_append_drop] at this
    exact this
  exact ⟨⟨Nat.le_trans hsub.length_le h1, List.all_eq_true.2 fun x hx => List.all_eq_true.1 h2 x (hsub.subset hx)⟩, h3.sublist (hsub.map _)⟩
theorem validL_more {l : List S24} {x : S24} (hl : validL l = true) (hx : validE x = true) (h : l.length + 1 ≤ 4000) (hd : idF l x.f0 = none) : validL (l ++ [x]) = true := by
  unfold validL at hl ⊢
  simp only [Bool.and_eq_true, decide_eq_true_eq] at hl ⊢
  refine ⟨⟨by rw [List.length_append]; exact h, by rw [List.all_append, hl.1.2]; simp [hx]⟩, ?_⟩
  rw [List.map_append, List.nodup_append]
  refine ⟨hl.2, by simp, fun a ha b hb e => ?_⟩
  subst e
  obtain rfl : a = x.f0 := by simpa using hb
  have h2 := (idF_isSome l x.f0).2 ha
  rw [hd] at h2; cases h2
theorem balF_without (s : ByteArray) (day known : Int) {l : List S24} {k : Nat} (h : k < l.length) : balF s day known l = balF s day known (l.take k ++ l.drop (k + 1)) + amt (rd_T24 l (k : Int)) s day known := by
  rw [rd_get h]
  conv => lhs; rw [← List.take_append_drop k l, List.drop_eq_getElem_cons h]
  rw [balF_append, balF_append]
  simp only [balF]; omega
/-- What Reverse answers at an entry of a valid list. -/
theorem revL_cases {l : List S24} {x : S24} (hv : validL l = true) (hx : x ∈ l) (by_ day known : Int) : ((revL l x.f0 by_ day known).1 = [] ∧ (revL l x.f0 by_ day known).2 ≠ 0) ∨
    (revL l x.f0 by_ day known = (l ++ [⟨by_, day, known, x.f3, x.f5, x.f4⟩], 0) ∧ validL (l ++ [⟨by_, day, known, x.f3, x.f5, x.f4⟩]) = true) := by
  have hnd : (l.map S24.f0).Nodup := by
    unfold validL at hv
    simp only [Bool.and_eq_true, decide_eq_true_eq] at hv
    exact hv.2
  unfold revL postF
  by_cases hg : (validL l && (decide (1 ≤ by_) && decide (by_ ≤ 1000000)) && (decide (0 ≤ day) && decide (day ≤ 36524)) && (decide (0 ≤ known) && decide (known ≤ 36524))) = true
  · rw [if_pos hg]
    cases hi : idF l x.f0 with
    | none => exact .inl ⟨rfl, by show ¬ ((4 : Int) = 0); decide⟩
    | some y =>
      obtain ⟨hy, hid⟩ := idF_spec hi
      have hxy : y = x := by
        obtain ⟨i, hil, rfl⟩ := List.getElem_of_mem hy
        obtain ⟨j, hjl, rfl⟩ := List.getElem_of_mem hx
        rw [nodup_rd] at hnd
        rcases Nat.lt_trichotomy i j with h | h | h
        · exact absurd (by rw [rd_get hil, rd_get hjl]; exact hid) (hnd i j h hjl)
        · subst h; rfl
        · exact absurd (by rw [rd_get hil, rd_get hjl]; exact hid.symm) (hnd j i h hil)
      subst hxy
      dsimp only
      by_cases h4 : l.length = 4000
      · rw [if_pos h4]; exact .inl ⟨rfl, by decide⟩
      · rw [if_neg h4]
        by_cases hb : (idF l by_).isSome = true
        · rw [if_pos hb]; exact .inl ⟨rfl, by decide⟩
        · rw [if_neg hb]
          refine .inr ⟨rfl, validL_more hv ?_ (by have := validL_len hv; omega) (by simpa using hb)⟩
          have hE := validL_all hv y hy
          have hne := validE_ne hE
          unfold validE at hE ⊢
          simp only [Bool.and_eq_true] at hg hE ⊢
          refine ⟨⟨⟨⟨⟨⟨hg.1.1.2, hg.1.2⟩, hg.2⟩, hE.1.1.1.2⟩, hE.1.2⟩, hE.1.1.2⟩, ?_⟩
          show (y.f5.toList != y.f4.toList) = true
          simp only [bne, eq_bytes, Bool.not_eq_true', decide_eq_false_iff_not]
          exact fun e => hne e.symm
  · rw [if_neg hg]; exact .inl ⟨rfl, by decide⟩

theorem amt_one (x : S24) (s : ByteArray) (day known : Int) : amt x s day known = if (decide (x.f1 ≤ day) && decide (x.f2 ≤ known)) = true then (if s = x.f4 then x.f3 else if s = x.f5 then -x.f3 else 0) else 0 := by
  rw [amt_eq]
  by_cases h : day < x.f1 ∨ known < x.f2
  · rw [if_pos h, if_neg]
    simp only [Bool.and_eq_true, decide_eq_true_eq]; omega
  · have e4 : (x.f4 = s) = (s = x.f4) := propext eq_comm
    have e5 : (x.f5 = s) = (s = x.f5) := propext eq_comm
    rw [if_neg h, if_pos (show (decide (x.f1 ≤ day) && decide (x.f2 ≤ known)) = true by simp only [Bool.and_eq_true, decide_eq_true_eq]; omega)]
    simp only [e4, e5]
/-- What both entries add to a balance. -/
def both2 (one two : Bool) (d c : Bool) (f : Int) : Int := (if one then (if d then f else if c then -f else 0) else 0) + (if two then (if c then f else if d then -f else 0) else 0)

set_option maxHeartbeats 16000000 in
set_option maxRecDepth 100000 in
theorem cohousinglaw33_LedgerReverses.calls (A0 : Option Addr) (c0 : Nat) (l0 : List S24) (a1 by_ from_ kf day known : Int) (w : World)
    (hr0 : Kd.C k24 w A0 l0.length l0) (hc0 : l0.length ≤ c0)
    (wl : l0.length ≤ maxLen ∧ ∀ x ∈ l0, wfE x) (wu : (Lit.int .u8 a1).wf = true) (w1 : (Lit.int .i64 by_).wf = true) (w2 : (Lit.int .i64 from_).wf = true) (w2' : (Lit.int .i64 kf).wf = true) (w3 : (Lit.int .i64 day).wf = true) (w4 : (Lit.int .i64 known).wf = true) :
    Calls Try.prog 6 #[.slice A0 l0.length c0, .int .u8 a1, .int .i64 by_, .int .i64 from_, .int .i64 kf, .int .i64 day, .int .i64 known] w fun e w' => e = .returned (.bool true) ∧ Below w.heap.size w w' := by
  have hs := smallL_of wl.2
  have hl : l0.length ≤ 9223372036854775807 := by have := wl.1; simp only [maxLen] at this; omega
  obtain ⟨ku, hu⟩ := (usable_ev l0 hl day known).rounds
  have HU : Aside0 (cohousinglaw33_usable.f ku l0 day known = some (okR l0 day known)) := ⟨hu⟩
  have HH : Aside0 (cohousinglaw33_head.f = some true) := ⟨rfl⟩
  have hu24 := Try.underlying24
  have HR0 := Aside0.mk hr0
  have HC0 := Aside0.mk hc0
  have HB := Aside0.mk (Below.refl w.heap.size w)
  have HF1 := Aside0.mk (accounts_f hs)
  have HWL := Aside0.mk wl.2
  have hu8 : 0 ≤ a1 ∧ a1 ≤ 255 := by
    have h : (Lit.int .u8 a1).wf = true := wu
    simp [Lit.wf, IntKind.min, IntKind.max, IntKind.signed, IntKind.bits] at h
    omega
  clear hr0 hc0 wl wu w1 w2 w2' w3 w4 hu
  by_cases hb1 : okR l0 day known = true
  · rw [hb1] at HU
    by_cases hne : l0.length = 0
    · have e1 : ((l0.length : Int) == 0) = true := beq_iff_eq.2 (by omega)
      clear hb1 hne hu8
      go_enter Try.func6, Try.ntmps6
      go_wp2_with (first
        | (go_at_call 11; (with_reducible refine (cohousinglaw33_head.calls true _ HH.out).mono ?_); rintro e w1 ⟨rfl, hb⟩; replace HB := Aside0.mk (below_step HB.out hb); clear hb)
        | (go_at_call 25; (with_reducible refine (cohousinglaw33_usable.calls ku A0 c0 l0 day known true _ ?s1 HC0.out HU.out).mono ?_); (case s1 => exact Kd.C_below HR0.out HB.out); rintro e w2 ⟨rfl, hb⟩; replace HB := Aside0.mk (below_step HB.out hb); clear hb))
      go_ret
      exact ⟨rfl, HB.out⟩
    · have e1 : ((l0.length : Int) == 0) = false := beq_eq_false_iff_ne.2 (by omega)
      obtain ⟨kk, hkk⟩ : ∃ kk : Nat, kk = a1.toNat % l0.length := ⟨_, rfl⟩
      have hlt : kk < l0.length := by rw [hkk]; exact Nat.mod_lt _ (by omega)
      have ht : a1.tmod (l0.length : Int) = (kk : Int) := by
        rw [hkk, Int.tmod_eq_emod_of_nonneg hu8.1, Int.natCast_emod, Int.toNat_of_nonneg hu8.1]
      have hk1 : (wrap64 a1).tmod (l0.length : Int) = (kk : Int) := by rw [Go.IntWalk.wrap64_in _ (by omega)]; exact ht
      have hk2 : (IntKind.i64.wrap a1).tmod (l0.length : Int) = (kk : Int) := by rw [i64_w]; exact hk1
      have hk3 : a1 % (l0.length : Int) = (kk : Int) := by rw [hkk, Int.natCast_emod, Int.toNat_of_nonneg hu8.1]
      clear hkk
      unfold okR at hb1
      simp only [Bool.and_eq_true] at hb1
      obtain ⟨⟨⟨hf1, hv1⟩, hd1⟩, hkn⟩ := hb1
      have hl60 : l0.length ≤ 60 := by
        unfold fewL at hf1
        simp only [Bool.and_eq_true, decide_eq_true_eq] at hf1
        exact hf1.1
      have hmem : rd_T24 l0 (kk : Int) ∈ l0 := by rw [rd_get hlt]; exact List.getElem_mem hlt
      have HX := Aside0.mk (validL_all hv1 _ hmem)
      have HREV := Aside0.mk (revL_cases hv1 hmem by_ from_ kf)
      have hRf : ledger_Reverse.f l0 (rd_T24 l0 (kk : Int)).f0 by_ from_ kf = some (revL l0 (rd_T24 l0 (kk : Int)).f0 by_ from_ kf) := by
        rw [ledger_Reverse.f, if_pos ⟨hs, (HWL.out _ hmem).1⟩]
      have HBF := Aside0.mk (fun s => balF_without s day known hlt)
      have HWV := Aside0.mk (validL_without kk hv1)
      have HWS : Aside0 ((l0.take kk ++ l0.drop (kk + 1)).all smallE = true) := ⟨List.all_eq_true.2 fun y hy => List.all_eq_true.1 hs y (by
        rcases List.mem_append.1 hy with h | h
        · exact List.mem_of_mem_take h
        · exact List.mem_of_mem_drop h)⟩
      have HDK : Aside0 ((decide (0 ≤ day) && decide (day ≤ 36524)) = true ∧ (decide (0 ≤ known) && decide (known ≤ 36524)) = true) := ⟨by simpa using hd1, by simpa using hkn⟩
      have HACC : Aside0 (ledger_Accounts.f l0 = some (namesL l0, 0)) := ⟨by rw [HF1.out, accL, if_pos hv1]⟩
      have HNB : Aside0 (∀ s ∈ namesL l0, accB s = true) := ⟨fun s h => accB_names hv1 h⟩
      have hN := len_namesL l0
      have HXS : Aside0 (smallE (rd_T24 l0 (kk : Int)) = true) := ⟨List.all_eq_true.1 hs _ hmem⟩
      have HS := Aside0.mk hs
      clear hf1 hv1 hd1 hkn hmem HF1 HWL hs hl hne ht
      obtain ⟨ad, e, x0, x1, x2, x3, x4, x5⟩ := at_T24 HR0.out (kk : Int) (by omega) (by omega)
      cases e
      simp only [Int.toNat_natCast] at x0 x1 x2 x3 x4 x5
      generalize hx : rd_T24 l0 (kk : Int) = x at *
      clear hx
      have HX0 := Aside0.mk x0
      have HX1 := Aside0.mk x1
      have HX2 := Aside0.mk x2
      have HX3 := Aside0.mk x3
      have HX4 := Aside0.mk x4
      have HX5 := Aside0.mk x5
      clear x0 x1 x2 x3 x4 x5
      rcases HREV.out with ⟨hr1, hr2⟩ | ⟨hrev, hvm⟩
      · generalize revL l0 x.f0 by_ from_ kf = rr at *
        obtain ⟨r1, r2⟩ := rr
        simp only at hr1 hr2
        subst hr1
        have HRF := Aside0.mk hRf
        have e2 : (r2 != 0) = true := by simpa [bne_iff_ne] using hr2
        clear hr2 hRf HREV HBF HWV HWS HDK HACC HNB HXS
        go_enter Try.func6, Try.ntmps6
        go_wp2_with (first
          | (go_at_call 11; (with_reducible refine (cohousinglaw33_head.calls true _ HH.out).mono ?_); rintro e w1 ⟨rfl, hb⟩; replace HB := Aside0.mk (below_step HB.out hb); clear hb)
          | (go_at_call 25; (with_reducible refine (cohousinglaw33_usable.calls ku (some ad) c0 l0 day known true _ ?s1 HC0.out HU.out).mono ?_); (case s1 => exact Kd.C_below HR0.out HB.out); rintro e w2 ⟨rfl, hb⟩; replace HB := Aside0.mk (below_step HB.out hb); clear hb; have y0 := (HB.out.cell (World.block_lt_of_cell? w _ HX0.out)).trans HX0.out; have y1 := (HB.out.cell (World.block_lt_of_cell? w _ HX1.out)).trans HX1.out; have y2 := (HB.out.cell (World.block_lt_of_cell? w _ HX2.out)).trans HX2.out; have y3 := (HB.out.cell (World.block_lt_of_cell? w _ HX3.out)).trans HX3.out; have y4 := (HB.out.cell (World.block_lt_of_cell? w _ HX4.out)).trans HX4.out; have y5 := (HB.out.cell (World.block_lt_of_cell? w _ HX5.out)).trans HX5.out)
          | (go_at_call 23; (with_reducible refine (ledger_Reverse.calls (some ad) c0 l0 x.f0 by_ from_ kf _ r2 _ ?s1 HC0.out HRF.out).mono ?_); (case s1 => exact Kd.C_alloc (Kd.C_below HR0.out HB.out) _); rintro e w6 ⟨v1, rfl, hR, hb⟩; obtain ⟨A1, c1, rfl, hl1, hc1⟩ := Kd.R_reads hR; replace HB := Aside0.mk (below_step (below_alloc HB.out _) hb); clear hR hl1 hc1 hb))
        go_ret
        exact ⟨rfl, HB.out⟩
      · rw [hrev] at hRf
        have HRF := Aside0.mk hRf
        have HVM := Aside0.mk hvm
        have HMF : Aside0 (ledger_Valid.f (l0 ++ [⟨by_, from_, kf, x.f3, x.f5, x.f4⟩]) = some true) := ⟨by
          have h := HXS.out
          unfold smallE at h
          rw [Bool.and_eq_true] at h
          have h' : smallE ⟨by_, from_, kf, x.f3, x.f5, x.f4⟩ = true := by
            show (small x.f5 && small x.f4) = true
            rw [h.1, h.2]; rfl
          rw [valid_f (by rw [List.all_append, HS.out]; simp [h']), hvm]⟩
        clear hrev hvm hRf HREV
        have HBM : Aside0 (∀ s, balF s day known (l0 ++ ([⟨by_, from_, kf, x.f3, x.f5, x.f4⟩] : List S24)) = balF s day known l0 + amt (⟨by_, from_, kf, x.f3, x.f5, x.f4⟩ : S24) s day known) := ⟨fun s => by rw [balF_append]; simp [balF]⟩
        have HMS : Aside0 ((l0 ++ ([⟨by_, from_, kf, x.f3, x.f5, x.f4⟩] : List S24)).all smallE = true) := ⟨by
          have h := HXS.out
          unfold smallE at h
          rw [Bool.and_eq_true] at h
          have h' : smallE ⟨by_, from_, kf, x.f3, x.f5, x.f4⟩ = true := by
            show (small x.f5 && small x.f4) = true
            rw [h.1, h.2]; rfl
          rw [List.all_append, HS.out]; simp [h']⟩
        generalize hM : l0 ++ ([⟨by_, from_, kf, x.f3, x.f5, x.f4⟩] : List S24) = M at *
        clear hM
        obtain ⟨WO, hWO⟩ : ∃ WO, l0.take kk ++ l0.drop (kk + 1) = WO := ⟨_, rfl⟩
        rw [hWO] at HWV HWS
        have HBF := Aside0.mk (fun s => hWO ▸ HBF.out s)
        have HWO := Aside0.mk hWO
        clear hWO
        have hcutt := cut_to (P := Try.prog) 22 24 .i64 Try.underlying22 (info_parts info24).choose_spec.1 (some ad) l0.length c0 (kk : Int) (by omega) (by omega) HC0.out
        have hcutf := cut_from (P := Try.prog) 22 24 .i64 Try.underlying22 (info_parts info24).choose_spec.1 6 (info_parts info24).choose_spec.2.2.1 (some ad) l0.length c0 ((kk : Int) + 1) (by omega) (by omega)
        rw [Int.toNat_natCast] at hcutt
        rw [show ((kk : Int) + 1).toNat = kk + 1 by omega] at hcutf
        have HT1 : Aside0 (ReadsRow (k24.K w) k24.sz w (some ad) kk (l0.take kk)) := ⟨by
          have h := Kd.C_take (m := kk) HR0.out (by omega)
          rw [show (l0.take kk).length = kk by rw [List.length_take]; omega] at h
          exact h⟩
        have HT2 : Aside0 (ReadsRow (k24.K w) k24.sz w (if c0 = kk + 1 then some ad else (some ad).map (·.add ((kk + 1) * 6))) (l0.length - (kk + 1)) (l0.drop (kk + 1))) := ⟨by
          have h := Kd.C_drop (m := kk + 1) (c := c0) HR0.out (by omega) HC0.out
          rw [show (l0.drop (kk + 1)).length = l0.length - (kk + 1) by rw [List.length_drop]] at h
          exact h⟩
        generalize (if c0 = kk + 1 then some ad else (some ad).map (·.add ((kk + 1) * 6))) = A5 at *
        generalize c0 - (kk + 1) = c5 at *
        generalize hm5 : l0.length - (kk + 1) = m5 at *
        have hm5' : m5 ≤ 60 := by omega
        have HM5 := Aside0.mk hm5
        clear hm5
        have HWLen : Aside0 ((l0.take kk ++ l0.drop (kk + 1)).length ≤ 60) := ⟨by rw [List.length_append, List.length_take, List.length_drop]; omega⟩
        go_enter Try.func6, Try.ntmps6
        go_upto_region 9 with (first
          | (go_at_call 11; (with_reducible refine (cohousinglaw33_head.calls true _ HH.out).mono ?_); rintro e w1 ⟨rfl, hb⟩; replace HB := Aside0.mk (below_step HB.out hb); clear hb)
          | (go_at_call 25; (with_reducible refine (cohousinglaw33_usable.calls ku (some ad) c0 l0 day known true _ ?s1 HC0.out HU.out).mono ?_); (case s1 => exact Kd.C_below HR0.out HB.out); rintro e w2 ⟨rfl, hb⟩; replace HB := Aside0.mk (below_step HB.out hb); clear hb; have y0 := (HB.out.cell (World.block_lt_of_cell? w _ HX0.out)).trans HX0.out; have y1 := (HB.out.cell (World.block_lt_of_cell? w _ HX1.out)).trans HX1.out; have y2 := (HB.out.cell (World.block_lt_of_cell? w _ HX2.out)).trans HX2.out; have y3 := (HB.out.cell (World.block_lt_of_cell? w _ HX3.out)).trans HX3.out; have y4 := (HB.out.cell (World.block_lt_of_cell? w _ HX4.out)).trans HX4.out; have y5 := (HB.out.cell (World.block_lt_of_cell? w _ HX5.out)).trans HX5.out)
          | (go_at_call 23; (with_reducible refine (ledger_Reverse.calls (some ad) c0 l0 x.f0 by_ from_ kf _ 0 _ ?s1 HC0.out HRF.out).mono ?_); (case s1 => exact Kd.C_alloc (Kd.C_below HR0.out HB.out) _); rintro e w6 ⟨v1, rfl, hR, hb⟩; obtain ⟨A1, c1, rfl, hl1, hc1⟩ := Kd.R_reads hR; have HR1 := Aside0.mk hc1; have HL1 := Aside0.mk hl1; have BK := Aside0.mk (blk_below (blk_new _ (.cells #[.int .i64 x.f0, .int .i64 x.f1, .int .i64 x.f2, .int .i64 x.f3, .string x.f4, .string x.f5] 24)) hb); replace HB := Aside0.mk (below_step (below_alloc HB.out _) hb); clear hR hl1 hc1 hb))
        replace HT1 := Aside0.mk (ReadsRow.imp_ HT1.out HB.out (fun _ _ hp => k24.K_below HB.out hp))
        replace HT2 := Aside0.mk (ReadsRow.imp_ HT2.out HB.out (fun _ _ hp => k24.K_below HB.out hp))
        have HOX : Aside0 (k24.R 24 (w6.drew.alloc (.cells #[] 24)) w6.heap.size (fun _ => True) (.slice (some ⟨w6.heap.size, 0, none⟩) 0 0) []) := ⟨R_fresh (W := w6.drew) (d := k24) (Nat.le_refl _)⟩
        have HB7 : Aside0 (Below w6.heap.size w6 (w6.drew.alloc (.cells #[] 24))) := ⟨below_alloc (below_drew (Below.refl _ _)) _⟩
        have hwk : IntKind.i64.wrap ((kk : Int) + 1) = (kk : Int) + 1 := Go.IntWalk.i64_in _ (by omega)
        go_region_held3 (fun w' => True) (first | trivial | go_keep)
          ((first
            | (refine Kd.R_append_rows_step k24 (Rr := k24.K _) (w0 := w6) w6.heap.size (by rfl) (.tmp 71) (.tmp 74) 22 24 (.agg #[(.int .i64 0), (.int .i64 0), (.int .i64 0), (.int .i64 0), (.string ⟨#[]⟩), (.string ⟨#[]⟩)]) 64 (by rfl) Try.underlying22 info24 rfl (by decide) (by omega) (.slice (some ⟨w6.heap.size, 0, none⟩) 0 0) ([] : List S24) (l0.take kk) (some ad) kk c0 (fun _ => True) (fun _ => False) (by rfl) (by rfl) HOX.out (ReadsRow.imp_ HT1.out HB7.out (fun _ _ hp => k24.K_below HB7.out hp)) (fun y cs h => k24_KM _ _ y cs h) (fun _ h => h.elim) (fun _ _ => trivial) HB7.out HB7.out.size (by first | omega | (simp; omega)) ?_; intro v3 w8 ho hb hg hat; have HO8 := Aside0.mk ho; have HB8 := Aside0.mk hb; have HG8 := Aside0.mk hg; clear ho hb hg hat)
            | (refine Kd.R_append_rows_step k24 (Rr := k24.K _) (w0 := w6) w6.heap.size (by rfl) (.tmp 75) (.tmp 79) 22 24 (.agg #[(.int .i64 0), (.int .i64 0), (.int .i64 0), (.int .i64 0), (.string ⟨#[]⟩), (.string ⟨#[]⟩)]) 64 (by rfl) Try.underlying22 info24 rfl (by decide) (by omega) v3 ([] ++ l0.take kk : List S24) (l0.drop (kk + 1)) A5 m5 c5 (fun _ => True) (fun _ => False) (by rfl) (by rfl) HO8.out (ReadsRow.imp_ HT2.out HB8.out (fun _ _ hp => k24.K_below HB8.out hp)) (fun y cs h => k24_KM _ _ y cs h) (fun _ h => h.elim) (fun _ _ => trivial) HB8.out HB8.out.size (by first | omega | (simp; omega)) ?_; intro v4 w9 ho hb hg hat; rw [List.nil_append, HWO.out] at ho; obtain ⟨A4, c4, rfl, hl4, hc4⟩ := Kd.R_reads ho; have HR4 := Aside0.mk hc4; have HL4 := Aside0.mk hl4; have HB9 := Aside0.mk hb; clear ho hb hg hat hl4 hc4)))
        rw [show ([] ++ l0.take kk : List S24) = l0.take kk from List.nil_append _] at *
        replace HR1 := Aside0.mk (Kd.C_below HR1.out HB9.out)
        replace BK := Aside0.mk (blk_below BK.out HB9.out)
        replace HB9 := Aside0.mk (below_step HB.out HB9.out)
        clear hcutt hcutf HT1 HT2 HOX HB7 HB8 HG8 HO8 HB hwk hk1 hk2 hk3
        go_upto_region 11 with (first
          | (go_at_call 20; (with_reducible refine (ledger_Accounts.calls (some ad) c0 l0 _ 0 _ ?s1 HC0.out HACC.out).mono ?_); (case s1 => exact Kd.C_below HR0.out HB9.out); rintro e w10 ⟨v5, rfl, hR, hb⟩; obtain ⟨A6, c6, rfl, hl6, hc6⟩ := Kd.R_reads hR; have HRN := Aside0.mk hc6; have HLN := Aside0.mk hl6; replace HR4 := Aside0.mk (Kd.C_below HR4.out hb); replace HR1 := Aside0.mk (Kd.C_below HR1.out hb); replace BK := Aside0.mk (blk_below BK.out hb); have HB10 := Aside0.mk (below_step HB9.out hb); clear hR hl6 hc6 hb))
        have z1 : w10.cell? ⟨w2.heap.size, 1, none⟩ = some (.int .i64 x.f1) := (blk_cell BK.out 1).trans rfl
        have z2 : w10.cell? ⟨w2.heap.size, 2, none⟩ = some (.int .i64 x.f2) := (blk_cell BK.out 2).trans rfl
        go_cut [23] (fun v23 wc => v23 = .bool (decide (x.f1 ≤ day) && decide (x.f2 ≤ known)) ∧ Aside0 (Below w10.heap.size w10 wc))
        case first =>
          by_cases p1 : x.f1 ≤ day
          · have q1 : decide (x.f1 ≤ day) = true := decide_eq_true p1
            go_wp2
            go_meet
            case rel => exact ⟨by rw [q1, Bool.true_and], ⟨Below.refl _ _⟩⟩
          · have q1 : decide (x.f1 ≤ day) = false := decide_eq_false p1
            go_wp2
            go_meet
            case rel => exact ⟨by rw [q1, Bool.false_and], ⟨Below.refl _ _⟩⟩
        case rest =>
          obtain ⟨rfl, HBc⟩ := hcut
          generalize hone : (decide (x.f1 ≤ day) && decide (x.f2 ≤ known)) = one at *
          have HONE := Aside0.mk hone
          clear hone
          go_upto_region 12 with (fail)
          go_cut [24] (fun v24 wd => v24 = .bool (decide (from_ ≤ day) && decide (kf ≤ known)) ∧ Aside0 (Below w10.heap.size w10 wd))
          case first =>
            by_cases p1 : from_ ≤ day
            · have q1 : decide (from_ ≤ day) = true := decide_eq_true p1
              go_wp2
              go_meet
              case rel => exact ⟨by rw [q1, Bool.true_and], HBc⟩
            · have q1 : decide (from_ ≤ day) = false := decide_eq_false p1
              go_wp2
              go_meet
              case rel => exact ⟨by rw [q1, Bool.false_and], HBc⟩
          case rest =>
            clear HBc
            obtain ⟨rfl, HBd⟩ := hcut
            generalize htwo : (decide (from_ ≤ day) && decide (kf ≤ known)) = two at *
            have HTWO := Aside0.mk htwo
            clear htwo
            have HNN : Aside0 (∀ s ∈ namesL l0, ∃ a : Int, ledger_Balance.f WO s day known = some (if (decide (-1000000000 ≤ a) && decide (a ≤ 1000000000)) = true then (a, 0) else (0, 3)) ∧
                ledger_Balance.f M s day known = some (if (decide (-1000000000 ≤ a + both2 one two (decide (s = x.f4)) (decide (s = x.f5)) x.f3) && decide (a + both2 one two (decide (s = x.f4)) (decide (s = x.f5)) x.f3 ≤ 1000000000)) = true then (a + both2 one two (decide (s = x.f4)) (decide (s = x.f5)) x.f3, 0) else (0, 3))) := ⟨fun s hsm => by
              have hac := HNB.out s hsm
              have hE : ∀ L : List S24, validL L = true → L.all smallE = true → ledger_Balance.f L s day known = some (if (decide (-1000000000 ≤ balF s day known L) && decide (balF s day known L ≤ 1000000000)) = true then (balF s day known L, 0) else (0, 3)) := by
                intro L hL hLs
                rw [balance_f hLs (small_acc hac)]
                unfold balL
                rw [hL, hac, HDK.out.1, HDK.out.2]; rfl
              refine ⟨balF s day known WO, hE WO HWV.out HWS.out, ?_⟩
              rw [hE M HVM.out HMS.out, HBM.out, HBF.out]
              have e1 : balF s day known WO + amt x s day known + amt ⟨by_, from_, kf, x.f3, x.f5, x.f4⟩ s day known = balF s day known WO + both2 one two (decide (s = x.f4)) (decide (s = x.f5)) x.f3 := by
                rw [amt_one, amt_one]
                show _ + (if (decide (x.f1 ≤ day) && decide (x.f2 ≤ known)) = true then _ else _) + (if (decide (from_ ≤ day) && decide (kf ≤ known)) = true then (if s = x.f5 then x.f3 else if s = x.f4 then -x.f3 else 0) else 0) = _
                rw [HONE.out, HTWO.out]
                unfold both2
                simp only [decide_eq_true_eq]
                omega
              rw [e1]⟩
            have hxc := validE_cents HX.out
            have HXN := Aside0.mk (validE_ne HX.out)
            clear HONE HTWO z1 z2 HBF HBM HWV HWS HVM HMS HDK HNB HACC
            generalize namesL l0 = ns at *
            go_wp2_with (first
              | (go_at_call 15; (with_reducible refine (ledger_Valid.calls A1 c1 M true _ ?s1 HL1.out HMF.out).mono ?_); (case s1 => exact Kd.C_below HR1.out HBd.out); rintro e w11 ⟨rfl, hb⟩; have HBe := Aside0.mk (below_step HBd.out hb); clear hb))
            clear HBd HMF
            go_loopg [113] ns.length (fun gk v113 w' => ∃ i : Nat, v113 = .int .i64 i ∧ Aside0 (i ≤ ns.length ∧ gk = ns.length - i) ∧ Aside0 (Below w10.heap.size w10 w'))
            case atStart => exact ⟨0, rfl, ⟨Nat.zero_le _, rfl⟩, HBe⟩
            case round =>
              clear HBe
              obtain ⟨i, rfl, HI, HK⟩ := hrel
              have hi := HI.out.1
              by_cases hlt : i < ns.length
              · obtain ⟨ad6, e, y0⟩ := Kd.at_string HRN.out (i : Int) (by omega) (by omega)
                cases e
                rw [rdOf_get _ hlt, Int.toNat_natCast] at y0
                replace y0 := (HK.out.cell (World.block_lt_of_cell? w10 _ y0)).trans y0
                obtain ⟨a, hfa, hfb⟩ := HNN.out _ (List.getElem_mem hlt)
                generalize hsx : ns[i] = s at *
                clear hsx
                have hq4 : (s.toList == x.f4.toList) = decide (s = x.f4) := eq_bytes _ _
                have hq5 : (s.toList == x.f5.toList) = decide (s = x.f5) := eq_bytes _ _
                have HQ : Aside0 (¬ (decide (s = x.f4) = true ∧ decide (s = x.f5) = true)) := ⟨fun h => HXN.out ((of_decide_eq_true h.1).symm.trans (of_decide_eq_true h.2))⟩
                generalize decide (s = x.f4) = q4 at *
                generalize decide (s = x.f5) = q5 at *
                by_cases ra : (decide (-1000000000 ≤ a) && decide (a ≤ 1000000000)) = true
                · rw [if_pos ra] at hfa
                  have HFA := Aside0.mk hfa
                  simp only [Bool.and_eq_true, decide_eq_true_eq] at ra
                  by_cases rb : (decide (-1000000000 ≤ a + both2 one two q4 q5 x.f3) && decide (a + both2 one two q4 q5 x.f3 ≤ 1000000000)) = true
                  · rw [if_pos rb] at hfb
                    clear hfa rb
                    cases one with
                    | true =>
                      cases two with
                      | true =>
                        have HFB : Aside0 (ledger_Balance.f M s day known = some (a, 0)) := ⟨by rw [hfb]; have hq := HQ.out; unfold both2; cases q4 <;> cases q5 <;> simp at hq ⊢ <;> omega⟩
                        clear hfb HQ
                        go_wp2_with (first
                          | (go_at_call 18; (with_reducible refine (ledger_Balance.calls A4 c4 WO s day known _ _ _ ?s1 HL4.out HFA.out).mono ?_); (case s1 => exact Kd.C_below HR4.out HK.out); rintro e w12 ⟨rfl, hb⟩; replace HK := Aside0.mk (below_step HK.out hb); clear hb)
                          | (go_at_call 18; (with_reducible refine (ledger_Balance.calls A1 c1 M s day known _ _ _ ?s1 HL1.out HFB.out).mono ?_); (case s1 => exact Kd.C_below HR1.out HK.out); rintro e w13 ⟨rfl, hb⟩; replace HK := Aside0.mk (below_step HK.out hb); have z3 : w13.cell? ⟨w2.heap.size, 3, none⟩ = some (.int .i64 x.f3) := (blk_cell (blk_below BK.out HK.out) 3).trans rfl; have z4 : w13.cell? ⟨w2.heap.size, 4, none⟩ = some (.string x.f4) := (blk_cell (blk_below BK.out HK.out) 4).trans rfl; have z5 : w13.cell? ⟨w2.heap.size, 5, none⟩ = some (.string x.f5) := (blk_cell (blk_below BK.out HK.out) 5).trans rfl; clear hb))
                        go_roundg (ns.length - (i + 1))
                        case measure => have := HI.out; omega
                        case rel => exact ⟨i + 1, by go_num, ⟨by omega, rfl⟩, HK⟩
                      | false =>
                        cases q4 with
                        | true =>
                          cases q5 with
                          | true => exact absurd ⟨rfl, rfl⟩ HQ.out
                          | false =>
                            have HFB : Aside0 (ledger_Balance.f M s day known = some (a + x.f3, 0)) := ⟨by rw [hfb]; unfold both2; simp <;> omega⟩
                            clear hfb HQ
                            go_wp2_with (first
                              | (go_at_call 18; (with_reducible refine (ledger_Balance.calls A4 c4 WO s day known _ _ _ ?s1 HL4.out HFA.out).mono ?_); (case s1 => exact Kd.C_below HR4.out HK.out); rintro e w12 ⟨rfl, hb⟩; replace HK := Aside0.mk (below_step HK.out hb); clear hb)
                              | (go_at_call 18; (with_reducible refine (ledger_Balance.calls A1 c1 M s day known _ _ _ ?s1 HL1.out HFB.out).mono ?_); (case s1 => exact Kd.C_below HR1.out HK.out); rintro e w13 ⟨rfl, hb⟩; replace HK := Aside0.mk (below_step HK.out hb); have z3 : w13.cell? ⟨w2.heap.size, 3, none⟩ = some (.int .i64 x.f3) := (blk_cell (blk_below BK.out HK.out) 3).trans rfl; have z4 : w13.cell? ⟨w2.heap.size, 4, none⟩ = some (.string x.f4) := (blk_cell (blk_below BK.out HK.out) 4).trans rfl; have z5 : w13.cell? ⟨w2.heap.size, 5, none⟩ = some (.string x.f5) := (blk_cell (blk_below BK.out HK.out) 5).trans rfl; clear hb))
                            go_roundg (ns.length - (i + 1))
                            case measure => have := HI.out; omega
                            case rel => exact ⟨i + 1, by go_num, ⟨by omega, rfl⟩, HK⟩
                        | false =>
                          cases q5 with
                          | true =>
                            have HFB : Aside0 (ledger_Balance.f M s day known = some (a - x.f3, 0)) := ⟨by rw [hfb]; unfold both2; simp <;> omega⟩
                            clear hfb HQ
                            go_wp2_with (first
                              | (go_at_call 18; (with_reducible refine (ledger_Balance.calls A4 c4 WO s day known _ _ _ ?s1 HL4.out HFA.out).mono ?_); (case s1 => exact Kd.C_below HR4.out HK.out); rintro e w12 ⟨rfl, hb⟩; replace HK := Aside0.mk (below_step HK.out hb); clear hb)
                              | (go_at_call 18; (with_reducible refine (ledger_Balance.calls A1 c1 M s day known _ _ _ ?s1 HL1.out HFB.out).mono ?_); (case s1 => exact Kd.C_below HR1.out HK.out); rintro e w13 ⟨rfl, hb⟩; replace HK := Aside0.mk (below_step HK.out hb); have z3 : w13.cell? ⟨w2.heap.size, 3, none⟩ = some (.int .i64 x.f3) := (blk_cell (blk_below BK.out HK.out) 3).trans rfl; have z4 : w13.cell? ⟨w2.heap.size, 4, none⟩ = some (.string x.f4) := (blk_cell (blk_below BK.out HK.out) 4).trans rfl; have z5 : w13.cell? ⟨w2.heap.size, 5, none⟩ = some (.string x.f5) := (blk_cell (blk_below BK.out HK.out) 5).trans rfl; clear hb))
                            go_roundg (ns.length - (i + 1))
                            case measure => have := HI.out; omega
                            case rel => exact ⟨i + 1, by go_num, ⟨by omega, rfl⟩, HK⟩
                          | false =>
                            have HFB : Aside0 (ledger_Balance.f M s day known = some (a, 0)) := ⟨by rw [hfb]; unfold both2; simp <;> omega⟩
                            clear hfb HQ
                            go_wp2_with (first
                              | (go_at_call 18; (with_reducible refine (ledger_Balance.calls A4 c4 WO s day known _ _ _ ?s1 HL4.out HFA.out).mono ?_); (case s1 => exact Kd.C_below HR4.out HK.out); rintro e w12 ⟨rfl, hb⟩; replace HK := Aside0.mk (below_step HK.out hb); clear hb)
                              | (go_at_call 18; (with_reducible refine (ledger_Balance.calls A1 c1 M s day known _ _ _ ?s1 HL1.out HFB.out).mono ?_); (case s1 => exact Kd.C_below HR1.out HK.out); rintro e w13 ⟨rfl, hb⟩; replace HK := Aside0.mk (below_step HK.out hb); have z3 : w13.cell? ⟨w2.heap.size, 3, none⟩ = some (.int .i64 x.f3) := (blk_cell (blk_below BK.out HK.out) 3).trans rfl; have z4 : w13.cell? ⟨w2.heap.size, 4, none⟩ = some (.string x.f4) := (blk_cell (blk_below BK.out HK.out) 4).trans rfl; have z5 : w13.cell? ⟨w2.heap.size, 5, none⟩ = some (.string x.f5) := (blk_cell (blk_below BK.out HK.out) 5).trans rfl; clear hb))
                            go_roundg (ns.length - (i + 1))
                            case measure => have := HI.out; omega
                            case rel => exact ⟨i + 1, by go_num, ⟨by omega, rfl⟩, HK⟩
                    | false =>
                      cases two with
                      | true =>
                        cases q4 with
                        | true =>
                          cases q5 with
                          | true => exact absurd ⟨rfl, rfl⟩ HQ.out
                          | false =>
                            have HFB : Aside0 (ledger_Balance.f M s day known = some (a - x.f3, 0)) := ⟨by rw [hfb]; unfold both2; simp <;> omega⟩
                            clear hfb HQ
                            go_wp2_with (first
                              | (go_at_call 18; (with_reducible refine (ledger_Balance.calls A4 c4 WO s day known _ _ _ ?s1 HL4.out HFA.out).mono ?_); (case s1 => exact Kd.C_below HR4.out HK.out); rintro e w12 ⟨rfl, hb⟩; replace HK := Aside0.mk (below_step HK.out hb); clear hb)
                              | (go_at_call 18; (with_reducible refine (ledger_Balance.calls A1 c1 M s day known _ _ _ ?s1 HL1.out HFB.out).mono ?_); (case s1 => exact Kd.C_below HR1.out HK.out); rintro e w13 ⟨rfl, hb⟩; replace HK := Aside0.mk (below_step HK.out hb); have z3 : w13.cell? ⟨w2.heap.size, 3, none⟩ = some (.int .i64 x.f3) := (blk_cell (blk_below BK.out HK.out) 3).trans rfl; have z4 : w13.cell? ⟨w2.heap.size, 4, none⟩ = some (.string x.f4) := (blk_cell (blk_below BK.out HK.out) 4).trans rfl; have z5 : w13.cell? ⟨w2.heap.size, 5, none⟩ = some (.string x.f5) := (blk_cell (blk_below BK.out HK.out) 5).trans rfl; clear hb))
                            go_roundg (ns.length - (i + 1))
                            case measure => have := HI.out; omega
                            case rel => exact ⟨i + 1, by go_num, ⟨by omega, rfl⟩, HK⟩
                        | false =>
                          cases q5 with
                          | true =>
                            have HFB : Aside0 (ledger_Balance.f M s day known = some (a + x.f3, 0)) := ⟨by rw [hfb]; unfold both2; simp <;> omega⟩
                            clear hfb HQ
                            go_wp2_with (first
                              | (go_at_call 18; (with_reducible refine (ledger_Balance.calls A4 c4 WO s day known _ _ _ ?s1 HL4.out HFA.out).mono ?_); (case s1 => exact Kd.C_below HR4.out HK.out); rintro e w12 ⟨rfl, hb⟩; replace HK := Aside0.mk (below_step HK.out hb); clear hb)
                              | (go_at_call 18; (with_reducible refine (ledger_Balance.calls A1 c1 M s day known _ _ _ ?s1 HL1.out HFB.out).mono ?_); (case s1 => exact Kd.C_below HR1.out HK.out); rintro e w13 ⟨rfl, hb⟩; replace HK := Aside0.mk (below_step HK.out hb); have z3 : w13.cell? ⟨w2.heap.size, 3, none⟩ = some (.int .i64 x.f3) := (blk_cell (blk_below BK.out HK.out) 3).trans rfl; have z4 : w13.cell? ⟨w2.heap.size, 4, none⟩ = some (.string x.f4) := (blk_cell (blk_below BK.out HK.out) 4).trans rfl; have z5 : w13.cell? ⟨w2.heap.size, 5, none⟩ = some (.string x.f5) := (blk_cell (blk_below BK.out HK.out) 5).trans rfl; clear hb))
                            go_roundg (ns.length - (i + 1))
                            case measure => have := HI.out; omega
                            case rel => exact ⟨i + 1, by go_num, ⟨by omega, rfl⟩, HK⟩
                          | false =>
                            have HFB : Aside0 (ledger_Balance.f M s day known = some (a, 0)) := ⟨by rw [hfb]; unfold both2; simp <;> omega⟩
                            clear hfb HQ
                            go_wp2_with (first
                              | (go_at_call 18; (with_reducible refine (ledger_Balance.calls A4 c4 WO s day known _ _ _ ?s1 HL4.out HFA.out).mono ?_); (case s1 => exact Kd.C_below HR4.out HK.out); rintro e w12 ⟨rfl, hb⟩; replace HK := Aside0.mk (below_step HK.out hb); clear hb)
                              | (go_at_call 18; (with_reducible refine (ledger_Balance.calls A1 c1 M s day known _ _ _ ?s1 HL1.out HFB.out).mono ?_); (case s1 => exact Kd.C_below HR1.out HK.out); rintro e w13 ⟨rfl, hb⟩; replace HK := Aside0.mk (below_step HK.out hb); have z3 : w13.cell? ⟨w2.heap.size, 3, none⟩ = some (.int .i64 x.f3) := (blk_cell (blk_below BK.out HK.out) 3).trans rfl; have z4 : w13.cell? ⟨w2.heap.size, 4, none⟩ = some (.string x.f4) := (blk_cell (blk_below BK.out HK.out) 4).trans rfl; have z5 : w13.cell? ⟨w2.heap.size, 5, none⟩ = some (.string x.f5) := (blk_cell (blk_below BK.out HK.out) 5).trans rfl; clear hb))
                            go_roundg (ns.length - (i + 1))
                            case measure => have := HI.out; omega
                            case rel => exact ⟨i + 1, by go_num, ⟨by omega, rfl⟩, HK⟩
                      | false =>
                        have HFB : Aside0 (ledger_Balance.f M s day known = some (a, 0)) := ⟨by rw [hfb]; have hq := HQ.out; unfold both2; cases q4 <;> cases q5 <;> simp at hq ⊢ <;> omega⟩
                        clear hfb HQ
                        go_wp2_with (first
                          | (go_at_call 18; (with_reducible refine (ledger_Balance.calls A4 c4 WO s day known _ _ _ ?s1 HL4.out HFA.out).mono ?_); (case s1 => exact Kd.C_below HR4.out HK.out); rintro e w12 ⟨rfl, hb⟩; replace HK := Aside0.mk (below_step HK.out hb); clear hb)
                          | (go_at_call 18; (with_reducible refine (ledger_Balance.calls A1 c1 M s day known _ _ _ ?s1 HL1.out HFB.out).mono ?_); (case s1 => exact Kd.C_below HR1.out HK.out); rintro e w13 ⟨rfl, hb⟩; replace HK := Aside0.mk (below_step HK.out hb); have z3 : w13.cell? ⟨w2.heap.size, 3, none⟩ = some (.int .i64 x.f3) := (blk_cell (blk_below BK.out HK.out) 3).trans rfl; have z4 : w13.cell? ⟨w2.heap.size, 4, none⟩ = some (.string x.f4) := (blk_cell (blk_below BK.out HK.out) 4).trans rfl; have z5 : w13.cell? ⟨w2.heap.size, 5, none⟩ = some (.string x.f5) := (blk_cell (blk_below BK.out HK.out) 5).trans rfl; clear hb))
                        go_roundg (ns.length - (i + 1))
                        case measure => have := HI.out; omega
                        case rel => exact ⟨i + 1, by go_num, ⟨by omega, rfl⟩, HK⟩
                  · rw [if_neg rb] at hfb
                    have HFB := Aside0.mk hfb
                    clear hfa hfb rb hq4 hq5 HQ
                    go_wp2_with (first
                      | (go_at_call 18; (with_reducible refine (ledger_Balance.calls A4 c4 WO s day known _ _ _ ?s1 HL4.out HFA.out).mono ?_); (case s1 => exact Kd.C_below HR4.out HK.out); rintro e w12 ⟨rfl, hb⟩; replace HK := Aside0.mk (below_step HK.out hb); clear hb)
                      | (go_at_call 18; (with_reducible refine (ledger_Balance.calls A1 c1 M s day known _ _ _ ?s1 HL1.out HFB.out).mono ?_); (case s1 => exact Kd.C_below HR1.out HK.out); rintro e w13 ⟨rfl, hb⟩; replace HK := Aside0.mk (below_step HK.out hb); have z3 : w13.cell? ⟨w2.heap.size, 3, none⟩ = some (.int .i64 x.f3) := (blk_cell (blk_below BK.out HK.out) 3).trans rfl; have z4 : w13.cell? ⟨w2.heap.size, 4, none⟩ = some (.string x.f4) := (blk_cell (blk_below BK.out HK.out) 4).trans rfl; have z5 : w13.cell? ⟨w2.heap.size, 5, none⟩ = some (.string x.f5) := (blk_cell (blk_below BK.out HK.out) 5).trans rfl; clear hb))
                    go_roundg (ns.length - (i + 1))
                    case measure => have := HI.out; omega
                    case rel => exact ⟨i + 1, by go_num, ⟨by omega, rfl⟩, HK⟩
                · rw [if_neg ra] at hfa
                  have HFA := Aside0.mk hfa
                  generalize hy : (if (decide (-1000000000 ≤ a + both2 one two q4 q5 x.f3) && decide (a + both2 one two q4 q5 x.f3 ≤ 1000000000)) = true then (a + both2 one two q4 q5 x.f3, (0 : Int)) else (0, 3)) = y at hfb
                  obtain ⟨y1, y2⟩ := y
                  have HFB := Aside0.mk hfb
                  clear hfa hfb ra hy hq4 hq5 HQ
                  go_wp2_with (first
                    | (go_at_call 18; (with_reducible refine (ledger_Balance.calls A4 c4 WO s day known _ _ _ ?s1 HL4.out HFA.out).mono ?_); (case s1 => exact Kd.C_below HR4.out HK.out); rintro e w12 ⟨rfl, hb⟩; replace HK := Aside0.mk (below_step HK.out hb); clear hb)
                    | (go_at_call 18; (with_reducible refine (ledger_Balance.calls A1 c1 M s day known _ _ _ ?s1 HL1.out HFB.out).mono ?_); (case s1 => exact Kd.C_below HR1.out HK.out); rintro e w13 ⟨rfl, hb⟩; replace HK := Aside0.mk (below_step HK.out hb); have z3 : w13.cell? ⟨w2.heap.size, 3, none⟩ = some (.int .i64 x.f3) := (blk_cell (blk_below BK.out HK.out) 3).trans rfl; have z4 : w13.cell? ⟨w2.heap.size, 4, none⟩ = some (.string x.f4) := (blk_cell (blk_below BK.out HK.out) 4).trans rfl; have z5 : w13.cell? ⟨w2.heap.size, 5, none⟩ = some (.string x.f5) := (blk_cell (blk_below BK.out HK.out) 5).trans rfl; clear hb))
                  go_roundg (ns.length - (i + 1))
                  case measure => have := HI.out; omega
                  case rel => exact ⟨i + 1, by go_num, ⟨by omega, rfl⟩, HK⟩
              · obtain rfl : i = ns.length := by omega
                go_wp2
                go_ret
                exact ⟨rfl, below_step HB10.out HK.out⟩
  · rw [Bool.not_eq_true] at hb1
    rw [hb1] at HU
    clear hb1 hu8
    go_enter Try.func6, Try.ntmps6
    go_wp2_with (first
      | (go_at_call 11; (with_reducible refine (cohousinglaw33_head.calls true _ HH.out).mono ?_); rintro e w1 ⟨rfl, hb⟩; replace HB := Aside0.mk (below_step HB.out hb); clear hb)
      | (go_at_call 25; (with_reducible refine (cohousinglaw33_usable.calls ku A0 c0 l0 day known false _ ?s1 HC0.out HU.out).mono ?_); (case s1 => exact Kd.C_below HR0.out HB.out); rintro e w2 ⟨rfl, hb⟩; replace HB := Aside0.mk (below_step HB.out hb); clear hb))
    go_ret
    exact ⟨rfl, HB.out⟩
end Go.Proofs.Ytnheelncgpgkiaa.P
