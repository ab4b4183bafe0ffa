/- P33.8, the walk of the law and its plain law in one: for all inputs LedgerAccounts returns true. -/
import Derived.Test.YtnheelncgpgkiaaPureBase
namespace Go.Proofs.Ytnheelncgpgkiaa.P
open Go.RowKit Go.Proofs.YtnheelncgpgkiaaW.PrintWords Go.Proofs.YtnheelncgpgkiaaW.PrintLast Go.Proofs.YtnheelncgpgkiaaW.PrintMore Go.Proofs.Ytnheelncgpgkiaa.M
open Go.Maps (keyOf_int_mk)
set_option linter.unusedVariables false
set_option linter.unusedSimpArgs false

theorem zeroBool' (W : World) : (zeroValue 4).run Try.prog W = .ok (.bool false) W := by kernel_rfl
def okU' (l : List S24) (day known : Int) : Bool := fewL l && validL l && (decide (0 ≤ day) && decide (day ≤ 36524)) && (decide (0 ≤ known) && decide (known ≤ 36524))
theorem balF_none {l : List S24} {acc : ByteArray} (h : acc ∉ namesL l) (day known : Int) : balF acc day known l = 0 := by
  have key : ∀ m : List S24, (∀ x ∈ m, x ∈ l) → balF acc day known m = 0 := by
    intro m
    induction m with
    | nil => intro _; rfl
    | cons x m ih =>
      intro hm
      have hx := hm x (by simp)
      have h4 : x.f4 ≠ acc := fun e => h ((mem_namesL l acc).2 ⟨x, hx, .inl e.symm⟩)
      have h5 : x.f5 ≠ acc := fun e => h ((mem_namesL l acc).2 ⟨x, hx, .inr e.symm⟩)
      simp only [balF]
      rw [ih (fun y hy => hm y (by simp [hy])), amt_eq, if_neg h4, if_neg h5]
      split <;> rfl
  exact key l (fun _ h => h)
theorem ris_get {ns : List ByteArray} (h : RisN ns) {i j : Nat} (hij : i < j) (hj : j < ns.length) : ltN (ns[i]'(by omega)) ns[j] := List.pairwise_iff_getElem.1 h i j (by omega) hj hij

set_option maxHeartbeats 8000000 in
set_option maxRecDepth 100000 in
theorem cohousinglaw33_LedgerAccounts.calls (A0 : Option Addr) (c0 : Nat) (l0 : List S24) (acc : ByteArray) (day known : Int) (w : World)
    (hr0 : Kd.C k24 w A0 l0.length l0) (hc0 : l0.length ≤ c0)
    (wl : l0.length ≤ maxLen ∧ ∀ x ∈ l0, wfE x) (wa : acc.size ≤ maxLen) (w3 : (Lit.int .i64 day).wf = true) (w4 : (Lit.int .i64 known).wf = true) :
    Calls Try.prog 10 #[.slice A0 l0.length c0, .string acc, .int .i64 day, .int .i64 known] w fun e w' => e = .returned (.bool true) ∧ Below w.heap.size w w' := by
  have hs := smallL_of wl.2
  have ha := small_of wa
  have hl : l0.length ≤ 9223372036854775807 := by have := wl.1; simp only [maxLen] at this; omega
  obtain ⟨ku, hu⟩ := (usable_ev l0 hl day known).rounds
  obtain ⟨ka, hac⟩ := (acc_ev acc).rounds
  have HU : Aside0 (cohousinglaw33_usable.f ku l0 day known = some (okU' l0 day known)) := ⟨hu⟩
  have HA := Aside0.mk hac
  have HH : Aside0 (cohousinglaw33_head.f = some true) := ⟨rfl⟩
  have hu24 := Try.underlying24
  have HR0 := Aside0.mk hr0
  have HC0 := Aside0.mk hc0
  have HB := Aside0.mk (Below.refl w.heap.size w)
  have HB1 := Aside0.mk (balance_f hs ha day known)
  have HF1 := Aside0.mk (accounts_f hs)
  clear hr0 hc0 wl wa w3 w4 hu hac hs ha
  by_cases hb1 : okU' l0 day known = true
  · rw [hb1] at HU
    by_cases hb3 : accB acc = true
    · rw [hb3] at HA
      have hacc16 := accB_size hb3
      unfold okU' at hb1
      simp only [Bool.and_eq_true] at hb1
      obtain ⟨⟨⟨hf1, hv1⟩, hd1⟩, hk1⟩ := hb1
      have hl60 : l0.length ≤ 60 := by
        unfold fewL at hf1
        simp only [Bool.and_eq_true, decide_eq_true_eq] at hf1
        exact hf1.1
      have HV1 := Aside0.mk (validL_all hv1)
      have HBal : Aside0 (balL l0 acc day known = if (decide (-1000000000 ≤ balF acc day known l0) && decide (balF acc day known l0 ≤ 1000000000)) = true then (balF acc day known l0, 0) else (0, 3)) := ⟨by
        unfold balL
        rw [hv1, hb3, hd1.1, hd1.2, hk1.1, hk1.2]; rfl⟩
      have hE : accL l0 = (namesL l0, 0) := by unfold accL; rw [if_pos hv1]
      rw [hE] at HF1
      have hN := len_namesL l0
      have HRis := Aside0.mk (ris_namesL l0)
      have HNames : Aside0 (∀ x ∈ namesL l0, x.size ≤ 16) := ⟨fun x hx => accB_size (accB_names hv1 hx)⟩
      clear hE hb3 hf1 hv1 hd1 hk1 hl
      have hmm := @run_makeMap Try.prog
      go_enter Try.func10, Try.ntmps10
      go_wp2_with (first
        | (go_at_call 11; (with_reducible refine (cohousinglaw33_head.calls true _ HH.out).mono ?_); rintro e w1 ⟨rfl, hb⟩; replace HB := Aside0.mk (below_step HB.out hb); clear hb)
        | (go_at_call 25; (with_reducible refine (cohousinglaw33_usable.calls ku A0 c0 l0 day known true _ ?s1 HC0.out HU.out).mono ?_); (case s1 => exact Kd.C_below HR0.out HB.out); rintro e w2 ⟨rfl, hb⟩; replace HB := Aside0.mk (below_step HB.out hb); clear hb)
        | (go_at_call 26; (with_reducible refine (cohousingref33_Account.calls ka acc true _ HA.out).mono ?_); rintro e w4 ⟨rfl, hd⟩; have hb := hd.below; replace HB := Aside0.mk (below_step HB.out hb); clear hb hd)
        | (go_at_call 20; (with_reducible refine (ledger_Accounts.calls A0 c0 l0 _ 0 _ ?s1 HC0.out HF1.out).mono ?_); (case s1 => exact Kd.C_below HR0.out HB.out); rintro e w5 ⟨v3, rfl, hR, hb⟩; obtain ⟨A3, c3, rfl, hl3, hc3⟩ := Kd.R_reads hR; have HR3 := Aside0.mk hc3; have HL3 := Aside0.mk hl3; replace HB := Aside0.mk (below_step HB.out hb); clear hR hl3 hc3 hb))
      have HM0 := Aside0.mk (MapAt.made w5 Try.prog 9)
      have HRA := Aside0.mk (Kd.C_below HR0.out HB.out)
      have HK0 := Aside0.mk (below_alloc (Below.refl w5.heap.size w5) (.map #[] 0))
      clear HU HH hmm HA HR0 HF1
      generalize hns : namesL l0 = ns at *
      go_loopg [42] l0.length (fun gk v42 w' => ∃ i : Nat, v42 = .int .i64 i ∧ Aside0 (i ≤ l0.length ∧ gk = l0.length - i) ∧
        Aside0 (MapAt w' Try.prog 9 w5.heap.size (strF Value.bool (memF (namesL (l0.take i)))) (namesL (l0.take i)).length) ∧ Aside0 (Below w5.heap.size w5 w'))
      case atStart => exact ⟨0, rfl, ⟨Nat.zero_le _, rfl⟩, ⟨by rw [List.take_zero]; exact (MapAt.congr HM0.out (fun x => by cases x <;> simp [strF, namesL, namesOf, putNs, memF]))⟩, HK0⟩
      case round =>
        obtain ⟨i, rfl, HI, HM, HK⟩ := hrel
        have hi := HI.out.1
        by_cases hlt : i < l0.length
        · obtain ⟨ad, e, x0, x1, x2, x3, x4, x5⟩ := at_T24 HRA.out (i : Int) (by omega) (by omega)
          cases e
          simp only [Int.toNat_natCast] at x0 x1 x2 x3 x4 x5
          replace x0 := (HK.out.cell (World.block_lt_of_cell? w5 _ x0)).trans x0
          replace x1 := (HK.out.cell (World.block_lt_of_cell? w5 _ x1)).trans x1
          replace x2 := (HK.out.cell (World.block_lt_of_cell? w5 _ x2)).trans x2
          replace x3 := (HK.out.cell (World.block_lt_of_cell? w5 _ x3)).trans x3
          replace x4 := (HK.out.cell (World.block_lt_of_cell? w5 _ x4)).trans x4
          replace x5 := (HK.out.cell (World.block_lt_of_cell? w5 _ x5)).trans x5
          have HT := Aside0.mk (take_snoc hlt)
          have HSz := Aside0.mk (validE_sizes (HV1.out _ (show rd_T24 l0 (i : Int) ∈ l0 by rw [rd_get hlt]; exact List.getElem_mem hlt)))
          generalize hx : rd_T24 l0 (i : Int) = x at *
          clear hx
          go_wp2
          have hBlt := HM.out.lt
          have hg0 := blk_new wr (.cells #[.int .i64 x.f0, .int .i64 x.f1, .int .i64 x.f2, .int .i64 x.f3, .string x.f4, .string x.f5] 24)
          have HBx := Aside0.mk (below_alloc HK.out (.cells #[.int .i64 x.f0, .int .i64 x.f1, .int .i64 x.f2, .int .i64 x.f3, .string x.f4, .string x.f5] 24))
          have HMx := Aside0.mk (HM.out.alloc (.cells #[.int .i64 x.f0, .int .i64 x.f1, .int .i64 x.f2, .int .i64 x.f3, .string x.f4, .string x.f5] 24))
          generalize (wr.alloc (.cells #[.int .i64 x.f0, .int .i64 x.f1, .int .i64 x.f2, .int .i64 x.f3, .string x.f4, .string x.f5] 24)) = wx at *
          generalize hgg : wr.heap.size = g at *
          have hglt : g < wx.heap.size := (Array.getElem?_eq_some_iff.1 hg0).1
          have c4' : wx.cell? ⟨g, 4, none⟩ = some (.string x.f4) := (blk_cell hg0 4).trans rfl
          have c5' : wx.cell? ⟨g, 5, none⟩ = some (.string x.f5) := (blk_cell hg0 5).trans rfl
          clear hg0 hgg x0 x1 x2 x3 x4 x5 HM HK
          have hris := Aside0.mk (ris_namesL (l0.take i))
          have HNT : Aside0 (namesL (l0.take (i + 1)) = putN (putN (namesL (l0.take i)) x.f4) x.f5) := ⟨by rw [HT.out, namesL_snoc]⟩
          clear HT
          generalize namesL (l0.take i) = ms at *
          obtain ⟨w2, hr2, hm2, hg2, _⟩ := HMx.out.drew.store keyStr Try.underlying47 (keyOf_str_mk HSz.out.1) (.bool true)
          obtain ⟨w3, hr3, hm3, hg3, _⟩ := hm2.store keyStr Try.underlying47 (keyOf_str_mk HSz.out.2) (.bool true)
          rw [strF_some, memF_len hris.out] at hm2
          rw [strF_put, memF_put] at hm2
          have hne : some g ≠ some w5.heap.size := by intro e; injection e with e; omega
          have d4 : w2.cell? ⟨g, 4, none⟩ = some (.string x.f4) := (hg2.cell_far ⟨g, 4, none⟩ hglt hne).trans c4'
          have d5 : w2.cell? ⟨g, 5, none⟩ = some (.string x.f5) := (hg2.cell_far ⟨g, 5, none⟩ hglt hne).trans c5'
          have hglt2 : g < w2.heap.size := Nat.lt_of_lt_of_le hglt hg2.size
          have e4 : w3.cell? ⟨g, 4, none⟩ = some (.string x.f4) := (hg3.cell_far ⟨g, 4, none⟩ hglt2 hne).trans d4
          have e5 : w3.cell? ⟨g, 5, none⟩ = some (.string x.f5) := (hg3.cell_far ⟨g, 5, none⟩ hglt2 hne).trans d5
          have HM3 : Aside0 (MapAt w3 Try.prog 9 w5.heap.size (strF Value.bool (memF (namesL (l0.take (i + 1))))) (namesL (l0.take (i + 1))).length) := ⟨by
            rw [strF_put, memF_put, strF_put, memF_put, strF_some, strF_some, memF_len hris.out, memF_len (ris_putN _ _ hris.out)] at hm3
            rw [HNT.out]; exact hm3⟩
          have HB3 : Aside0 (Below w5.heap.size w5 w3) := ⟨((below_drew HBx.out).grown hg2 (by simp; omega) (by rintro k h; cases h; exact Nat.le_refl _)).grown hg3 (by have := hg2.size; simp at this; omega) (by rintro k h; cases h; exact Nat.le_refl _)⟩
          clear hm2 hm3 hg2 hg3
          go_region_held3 (fun w' => w'.cell? ⟨g, 4, none⟩ = some (.string x.f4) ∧ w'.cell? ⟨g, 5, none⟩ = some (.string x.f5)) (first | go_keep | exact ⟨d4, d5⟩ | exact ⟨e4, e5⟩) (skip)
          all_goals go_wp2
          all_goals go_roundg (l0.length - (i + 1))
          case measure => have := HI.out; omega
          case rel => exact ⟨i + 1, by go_num, ⟨by omega, rfl⟩, HM3, HB3⟩
        · obtain rfl : i = l0.length := by omega
          rw [List.take_length, hns] at HM
          clear HI hlt hi HM0 HK0
          go_wp2
          go_loopg [15, 55] ns.length (fun gk v15 v55 w' => ∃ i : Nat, v55 = .int .i64 i ∧ v15 = .bool (decide (acc ∈ ns.take i)) ∧ Aside0 (i ≤ ns.length ∧ gk = ns.length - i) ∧
            Aside0 (MapAt w' Try.prog 9 w5.heap.size (strF Value.bool (memF ns)) ns.length) ∧ Aside0 (Below w5.heap.size w5 w'))
          case atStart => exact ⟨0, rfl, by rw [List.take_zero, decide_eq_false (by simp)], ⟨Nat.zero_le _, rfl⟩, HM, HK⟩
          case round =>
            clear HM HK
            obtain ⟨i, rfl, rfl, HI, HM, HK⟩ := hrel
            have hi := HI.out.1
            by_cases hlt : i < ns.length
            · obtain ⟨ad, e, y0⟩ := Kd.at_string HR3.out (i : Int) (by omega) (by omega)
              cases e
              rw [rdOf_get _ hlt, Int.toNat_natCast] at y0
              replace y0 := (HK.out.cell (World.block_lt_of_cell? w5 _ y0)).trans y0
              have hsz := HNames.out _ (List.getElem_mem hlt)
              have hlk : (Instr.lookup 47 (.map (some w5.heap.size)) (.string ns[i]) false).run Try.prog wr = .ok (.bool true) wr := by
                rw [HM.out.look false keyStr Try.underlying47 (zeroBool' wr) (keyOf_str_mk hsz), strF_at, memF, if_pos (List.getElem_mem hlt)]; rfl
              have heq : (ns[i].toList == acc.toList) = decide (ns[i] = acc) := eq_bytes _ _
              have HIs : Aside0 (decide (acc ∈ ns.take (i + 1)) = (decide (acc ∈ ns.take i) || decide (ns[i] = acc))) := ⟨by
                rw [List.take_succ_eq_append_getElem hlt, Bool.eq_iff_iff, Bool.or_eq_true, decide_eq_true_eq, decide_eq_true_eq, decide_eq_true_eq, List.mem_append, List.mem_singleton]
                exact ⟨fun h => h.imp id Eq.symm, fun h => h.imp id Eq.symm⟩⟩
              generalize hisb : decide (acc ∈ ns.take i) = is at *
              clear hisb
              by_cases h0 : i = 0
              · subst h0
                generalize hs0 : ns[0] = s at *
                clear hs0
                generalize decide (s = acc) = q at *
                have y0' := y0
                simp [Addr.add] at y0'
                cases is with
                | true =>
                  go_wp2
                  go_roundg (ns.length - (0 + 1))
                  case measure => have := HI.out; omega
                  case rel => exact ⟨0 + 1, by go_num, by rw [HIs.out]; rfl, ⟨by omega, rfl⟩, HM, HK⟩
                | false =>
                  go_wp2
                  go_roundg (ns.length - (0 + 1))
                  case measure => have := HI.out; omega
                  case rel => exact ⟨0 + 1, by go_num, by rw [HIs.out, Bool.false_or], ⟨by omega, rfl⟩, HM, HK⟩
              · obtain ⟨m, rfl⟩ : ∃ m, i = m + 1 := ⟨i - 1, by omega⟩
                have y0' := y0
                simp [Addr.add] at y0'
                obtain ⟨ad', e, y1⟩ := Kd.at_string HR3.out (m : Int) (by omega) (by omega)
                cases e
                rw [rdOf_get _ (show m < ns.length by omega), Int.toNat_natCast] at y1
                replace y1 := (HK.out.cell (World.block_lt_of_cell? w5 _ y1)).trans y1
                have hlt2 := ris_get HRis.out (show m < m + 1 by omega) hlt
                have hq1 : Op.bytesLess ns[m + 1].toList (ns[m]'(by omega)).toList = false := by rw [ltN_bytes]; exact decide_eq_false (ltN_asymm hlt2)
                have hq2 : (ns[m + 1].toList == (ns[m]'(by omega)).toList) = false := by rw [eq_bytes]; exact decide_eq_false (fun e => ltN_irrefl _ (e ▸ hlt2))
                have e0 : decide ((0 : Int) < ((m + 1 : Nat) : Int)) = true := decide_eq_true (by omega)
                clear hlt2
                generalize hs0 : ns[m + 1] = s at *
                generalize hs1 : (ns[m]'(by omega)) = p at *
                clear hs0 hs1
                generalize decide (s = acc) = q at *
                cases is with
                | true =>
                  go_wp2
                  go_roundg (ns.length - (m + 1 + 1))
                  case measure => have := HI.out; omega
                  case rel => exact ⟨m + 1 + 1, by go_num, by rw [HIs.out]; rfl, ⟨by omega, rfl⟩, HM, HK⟩
                | false =>
                  go_wp2
                  go_roundg (ns.length - (m + 1 + 1))
                  case measure => have := HI.out; omega
                  case rel => exact ⟨m + 1 + 1, by go_num, by rw [HIs.out, Bool.false_or], ⟨by omega, rfl⟩, HM, HK⟩
            · obtain rfl : i = ns.length := by omega
              rw [List.take_length]
              have HMl := HM
              by_cases hmem : acc ∈ ns
              · rw [decide_eq_true hmem]
                clear hmem
                generalize hbb : balL l0 acc day known = bb at *
                obtain ⟨b1, b2⟩ := bb
                clear hbb HBal
                go_wp2_with (first
                  | (go_at_call 18; (with_reducible refine (ledger_Balance.calls A0 c0 l0 acc day known _ _ _ ?s1 HC0.out HB1.out).mono ?_); (case s1 => exact Kd.C_below HRA.out HK.out); rintro e w6 ⟨rfl, hb⟩; have hln := fun ty => (HM.out.kept hb).len Try.underlying47 ty; replace HK := Aside0.mk (below_step HK.out hb); clear hb))
                go_ret
                exact ⟨rfl, below_step HB.out HK.out⟩
              · rw [decide_eq_false hmem]
                have hz := balF_none (l := l0) (acc := acc) (by rw [hns]; exact hmem) day known
                have HB0 : Aside0 (ledger_Balance.f l0 acc day known = some (0, 0)) := ⟨by rw [HB1.out, HBal.out, hz]; rfl⟩
                clear hmem hz HBal HB1
                go_wp2_with (first
                  | (go_at_call 18; (with_reducible refine (ledger_Balance.calls A0 c0 l0 acc day known 0 0 _ ?s1 HC0.out HB0.out).mono ?_); (case s1 => exact Kd.C_below HRA.out HK.out); rintro e w6 ⟨rfl, hb⟩; have hln := fun ty => (HM.out.kept hb).len Try.underlying47 ty; replace HK := Aside0.mk (below_step HK.out hb); clear hb))
                go_ret
                exact ⟨rfl, below_step HB.out HK.out⟩
    · rw [Bool.not_eq_true] at hb3
      rw [hb3] at HA
      clear hb1 hb3
      go_enter Try.func10, Try.ntmps10
      go_wp2_with (first
        | (go_at_call 11; (with_reducible refine (cohousinglaw33_head.calls true _ HH.out).mono ?_); rintro e w1 ⟨rfl, hb⟩; replace HB := Aside0.mk (below_step HB.out hb); clear hb)
        | (go_at_call 25; (with_reducible refine (cohousinglaw33_usable.calls ku A0 c0 l0 day known true _ ?s1 HC0.out HU.out).mono ?_); (case s1 => exact Kd.C_below HR0.out HB.out); rintro e w2 ⟨rfl, hb⟩; replace HB := Aside0.mk (below_step HB.out hb); clear hb)
        | (go_at_call 26; (with_reducible refine (cohousingref33_Account.calls ka acc false _ HA.out).mono ?_); rintro e w4 ⟨rfl, hd⟩; have hb := hd.below; replace HB := Aside0.mk (below_step HB.out hb); clear hb hd))
      go_ret
      exact ⟨rfl, HB.out⟩
  · rw [Bool.not_eq_true] at hb1
    rw [hb1] at HU
    clear hb1
    go_enter Try.func10, Try.ntmps10
    go_wp2_with (first
      | (go_at_call 11; (with_reducible refine (cohousinglaw33_head.calls true _ HH.out).mono ?_); rintro e w1 ⟨rfl, hb⟩; replace HB := Aside0.mk (below_step HB.out hb); clear hb)
      | (go_at_call 25; (with_reducible refine (cohousinglaw33_usable.calls ku A0 c0 l0 day known false _ ?s1 HC0.out HU.out).mono ?_); (case s1 => exact Kd.C_below HR0.out HB.out); rintro e w2 ⟨rfl, hb⟩; replace HB := Aside0.mk (below_step HB.out hb); clear hb))
    go_ret
    exact ⟨rfl, HB.out⟩
end Go.Proofs.Ytnheelncgpgkiaa.P
