/- P33.7, the walk of the law and its plain law in one: for all inputs LedgerParts returns true. -/
import Derived.Test.YtnheelncgpgkiaaPureBase
namespace Go.Proofs.Ytnheelncgpgkiaa.P
open Go.RowKit Go.Proofs.YtnheelncgpgkiaaW.PrintWords Go.Proofs.YtnheelncgpgkiaaW.PrintLast Go.Proofs.YtnheelncgpgkiaaW.PrintMore Go.Proofs.Ytnheelncgpgkiaa.M
open Go.Maps (keyOf_int_mk)
set_option linter.unusedVariables false
set_option linter.unusedSimpArgs false

/-- The numbers of entries, as the map of the law has them. -/
def idB (l : List S24) (j : Int) : Option Bool := (idF l j).map fun _ => true
theorem idB_nil : intF Value.bool (idB []) = fun _ => none := by
  rw [show idB [] = fun _ => none from rfl, ← intF_none]
theorem idB_snoc (l : List S24) (x : S24) : idB (l ++ [x]) = fun j => if j = x.f0 then some true else idB l j := by
  funext j
  unfold idB
  rw [idF_snoc]
  by_cases h : j = x.f0
  · simp [h]
  · simp [h]
theorem zeroBool (W : World) : (zeroValue 4).run Try.prog W = .ok (.bool false) W := by kernel_rfl

theorem validL_both {l m : List S24} (hl : validL l = true) (hm : validL m = true) (h60 : l.length + m.length ≤ 4000) (hd : ∀ j : Nat, j < m.length → idF l (rd_T24 m (j : Int)).f0 = none) : validL (l ++ m) = true := by
  unfold validL at hl hm ⊢
  simp only [Bool.and_eq_true, decide_eq_true_eq] at hl hm ⊢
  refine ⟨⟨by rw [List.length_append]; exact h60, by rw [List.all_append, hl.1.2, hm.1.2]; rfl⟩, ?_⟩
  rw [List.map_append, List.nodup_append]
  refine ⟨hl.2, hm.2, fun a ha b hb e => ?_⟩
  subst e
  obtain ⟨y, hy, rfl⟩ := List.mem_map.1 hb
  obtain ⟨j, hj, rfl⟩ := List.getElem_of_mem hy
  have h1 := hd j hj
  rw [rd_get hj] at h1
  have h2 := (idF_isSome l m[j].f0).2 ha
  rw [h1] at h2; cases h2

def okU (l : List S24) (day known : Int) : Bool := fewL l && validL l && (decide (0 ≤ day) && decide (day ≤ 36524)) && (decide (0 ≤ known) && decide (known ≤ 36524))

set_option maxHeartbeats 8000000 in
set_option maxRecDepth 100000 in
theorem cohousinglaw33_LedgerParts.calls (A0 : Option Addr) (c0 : Nat) (l0 : List S24) (A1 : Option Addr) (c1 : Nat) (m0 : List S24) (acc : ByteArray) (day known : Int) (w : World)
    (hr0 : Kd.C k24 w A0 l0.length l0) (hc0 : l0.length ≤ c0) (hr1 : Kd.C k24 w A1 m0.length m0) (hc1 : m0.length ≤ c1)
    (wl : l0.length ≤ maxLen ∧ ∀ x ∈ l0, wfE x) (wm : m0.length ≤ maxLen ∧ ∀ x ∈ m0, wfE x) (wa : acc.size ≤ maxLen) (w3 : (Lit.int .i64 day).wf = true) (w4 : (Lit.int .i64 known).wf = true) :
    Calls Try.prog 9 #[.slice A0 l0.length c0, .slice A1 m0.length c1, .string acc, .int .i64 day, .int .i64 known] w fun e w' => e = .returned (.bool true) ∧ Below w.heap.size w w' := by
  have hs := smallL_of wl.2
  have hs' := smallL_of wm.2
  have ha := small_of wa
  have hl : l0.length ≤ 9223372036854775807 := by have := wl.1; simp only [maxLen] at this; omega
  have hm : m0.length ≤ 9223372036854775807 := by have := wm.1; simp only [maxLen] at this; omega
  obtain ⟨ku, hu⟩ := (usable_ev l0 hl day known).rounds
  obtain ⟨kv, hv⟩ := (usable_ev m0 hm day known).rounds
  obtain ⟨ka, hac⟩ := (acc_ev acc).rounds
  have HU : Aside0 (cohousinglaw33_usable.f ku l0 day known = some (okU l0 day known)) := ⟨hu⟩
  have HV : Aside0 (cohousinglaw33_usable.f kv m0 day known = some (okU m0 day known)) := ⟨hv⟩
  have HA := Aside0.mk hac
  have HH : Aside0 (cohousinglaw33_head.f = some true) := ⟨rfl⟩
  have hu24 := Try.underlying24
  have HR0 := Aside0.mk hr0
  have HC0 := Aside0.mk hc0
  have HR1 := Aside0.mk hr1
  have HC1 := Aside0.mk hc1
  have HB := Aside0.mk (Below.refl w.heap.size w)
  have HB1 := Aside0.mk (balance_f hs ha day known)
  have HB2 := Aside0.mk (balance_f hs' ha day known)
  have HB3 : Aside0 (ledger_Balance.f (l0 ++ m0) acc day known = some (balL (l0 ++ m0) acc day known)) := ⟨balance_f (by rw [List.all_append, hs, hs']; rfl) ha day known⟩
  have HF3 : Aside0 (ledger_Valid.f (l0 ++ m0) = some (validL (l0 ++ m0))) := ⟨valid_f (by rw [List.all_append, hs, hs']; rfl)⟩
  have HWL := Aside0.mk wl.2
  have HWM := Aside0.mk wm.2
  clear hr0 hc0 hr1 hc1 wl wm wa w3 w4 hu hv hac hs hs' ha
  by_cases hb1 : okU l0 day known = true
  · rw [hb1] at HU
    by_cases hb2 : okU m0 day known = true
    · rw [hb2] at HV
      by_cases hb3 : accB acc = true
      · rw [hb3] at HA
        unfold okU at hb1 hb2
        simp only [Bool.and_eq_true] at hb1 hb2
        obtain ⟨⟨⟨hf1, hv1⟩, hd1⟩, hk1⟩ := hb1
        obtain ⟨⟨⟨hf2, hv2⟩, _⟩, _⟩ := hb2
        have hl60 : l0.length ≤ 60 := by
          unfold fewL at hf1
          simp only [Bool.and_eq_true, decide_eq_true_eq] at hf1
          exact hf1.1
        have hm60 : m0.length ≤ 60 := by
          unfold fewL at hf2
          simp only [Bool.and_eq_true, decide_eq_true_eq] at hf2
          exact hf2.1
        have HV1 := Aside0.mk hv1
        have HV2 := Aside0.mk hv2
        have HDK : Aside0 ((accB acc && (decide (0 ≤ day) && decide (day ≤ 36524)) && (decide (0 ≤ known) && decide (known ≤ 36524))) = true) := ⟨by
          rw [hb3]; simp only [Bool.true_and, Bool.and_eq_true]; exact ⟨by simpa using hd1, by simpa using hk1⟩⟩
        clear hb3 hf1 hf2 hv1 hv2 hd1 hk1 hl hm
        have hmm := @run_makeMap Try.prog
        go_enter Try.func9, Try.ntmps9
        go_wp2_with (first
          | (go_at_call 11; (with_reducible refine (cohousinglaw33_head.calls true _ HH.out).mono ?_); rintro e w1 ⟨rfl, hb⟩; replace HB := Aside0.mk (below_step HB.out hb); clear hb)
          | (go_at_call 25; (with_reducible refine (cohousinglaw33_usable.calls ku A0 c0 l0 day known true _ ?s1 HC0.out HU.out).mono ?_); (case s1 => exact Kd.C_below HR0.out HB.out); rintro e w2 ⟨rfl, hb⟩; replace HB := Aside0.mk (below_step HB.out hb); clear hb)
          | (go_at_call 25; (with_reducible refine (cohousinglaw33_usable.calls kv A1 c1 m0 day known true _ ?s1 HC1.out HV.out).mono ?_); (case s1 => exact Kd.C_below HR1.out HB.out); rintro e w3 ⟨rfl, hb⟩; replace HB := Aside0.mk (below_step HB.out hb); clear hb)
          | (go_at_call 26; (with_reducible refine (cohousingref33_Account.calls ka acc true _ HA.out).mono ?_); rintro e w4 ⟨rfl, hd⟩; have hb := hd.below; replace HB := Aside0.mk (below_step HB.out hb); clear hb hd))
        have HM0 := Aside0.mk (MapAt.made w4 Try.prog 3)
        have HBM := Aside0.mk (below_alloc HB.out (.map #[] 0))
        have hBw : w.heap.size ≤ w4.heap.size := HB.out.size
        clear HU HV HH HB hmm HA
        generalize hB : w4.heap.size = B at *
        have HBB := Aside0.mk hB
        clear hB
        go_loopg [46] l0.length (fun gk v46 w' => ∃ i : Nat, v46 = .int .i64 i ∧ Aside0 (i ≤ l0.length ∧ gk = l0.length - i) ∧
          Aside0 (∃ n, MapAt w' Try.prog 3 B (intF Value.bool (idB (l0.take i))) n) ∧ Aside0 (Below w.heap.size w w'))
        case atStart => exact ⟨0, rfl, ⟨Nat.zero_le _, rfl⟩, ⟨0, by rw [List.take_zero, idB_nil]; exact HM0.out⟩, HBM⟩
        case round =>
          obtain ⟨i, rfl, HI, HM, HK⟩ := hrel
          have hi := HI.out.1
          by_cases hlt : i < l0.length
          · have hid := validE_id (validL_all HV1.out _ (show rd_T24 l0 (i : Int) ∈ l0 by rw [rd_get hlt]; exact List.getElem_mem hlt))
            obtain ⟨ad, e, x0, x1, x2, x3, x4, x5⟩ := at_T24 HR0.out (i : Int) (by omega) (by omega)
            cases e
            simp only [Int.toNat_natCast] at x0 x1 x2 x3 x4 x5
            replace x0 := (HK.out.cell (World.block_lt_of_cell? w _ x0)).trans x0
            replace x1 := (HK.out.cell (World.block_lt_of_cell? w _ x1)).trans x1
            replace x2 := (HK.out.cell (World.block_lt_of_cell? w _ x2)).trans x2
            replace x3 := (HK.out.cell (World.block_lt_of_cell? w _ x3)).trans x3
            replace x4 := (HK.out.cell (World.block_lt_of_cell? w _ x4)).trans x4
            replace x5 := (HK.out.cell (World.block_lt_of_cell? w _ x5)).trans x5
            have HT := Aside0.mk (take_snoc hlt)
            obtain ⟨n, hMn⟩ := HM.out
            have HMn := Aside0.mk hMn
            clear hMn
            generalize hx : rd_T24 l0 (i : Int) = x at *
            clear hx
            go_wp2_with (first
              | (at_mapUpdate; refine wpList_store rfl (.tmp 50) (.tmp 52) (.const (.bool true)) 45 rfl 3 4 keyInt Try.underlying45 B n (intF Value.bool (idB (l0.take i))) rfl ?hM (.int .i64 x.f0) (.bool true) (.int .i64 x.f0) rfl rfl (keyOf_int_mk Try.underlying3 (WalkArith.wf_i64 (by omega))) ?_; (case hM => exact HMn.out.alloc _); intro w3 hm3 hg3))
            have hm4 : Aside0 (∃ n, MapAt w3 Try.prog 3 B (intF Value.bool (idB (l0.take (i + 1)))) n) := ⟨_, by
              rw [HT.out, idB_snoc, ← intF_put]; exact hm3⟩
            have hB4 : Aside0 (Below w.heap.size w w3) := ⟨(below_alloc HK.out _).grown hg3 (by have := HK.out.size; simp; omega) (by rintro k h; cases h; exact hBw)⟩
            clear hm3 hg3 HM HMn HK
            go_wp2
            go_roundg (l0.length - (i + 1))
            case measure => have := HI.out; omega
            case rel => exact ⟨i + 1, by go_num, ⟨by omega, rfl⟩, hm4, hB4⟩
          · obtain rfl : i = l0.length := by omega
            rw [List.take_length] at HM
            clear HI hlt hi HM0 HBM
            go_wp2
            go_loopg [56] m0.length (fun gk v56 w' => ∃ i : Nat, v56 = .int .i64 i ∧ Aside0 (i ≤ m0.length ∧ gk = m0.length - i) ∧ Aside0 (∀ j : Nat, j < i → idF l0 (rd_T24 m0 (j : Int)).f0 = none) ∧
              Aside0 (∃ n, MapAt w' Try.prog 3 B (intF Value.bool (idB l0)) n) ∧ Aside0 (Below w.heap.size w w'))
            case atStart => exact ⟨0, rfl, ⟨Nat.zero_le _, rfl⟩, ⟨fun j hj => absurd hj (Nat.not_lt_zero j)⟩, HM, HK⟩
            case round =>
              clear HM HK
              obtain ⟨i, rfl, HI, HD, HM, HK⟩ := hrel
              have hi := HI.out.1
              by_cases hlt : i < m0.length
              · have hid := validE_id (validL_all HV2.out _ (show rd_T24 m0 (i : Int) ∈ m0 by rw [rd_get hlt]; exact List.getElem_mem hlt))
                obtain ⟨ad, e, x0, x1, x2, x3, x4, x5⟩ := at_T24 HR1.out (i : Int) (by omega) (by omega)
                cases e
                simp only [Int.toNat_natCast] at x0 x1 x2 x3 x4 x5
                replace x0 := (HK.out.cell (World.block_lt_of_cell? w _ x0)).trans x0
                replace x1 := (HK.out.cell (World.block_lt_of_cell? w _ x1)).trans x1
                replace x2 := (HK.out.cell (World.block_lt_of_cell? w _ x2)).trans x2
                replace x3 := (HK.out.cell (World.block_lt_of_cell? w _ x3)).trans x3
                replace x4 := (HK.out.cell (World.block_lt_of_cell? w _ x4)).trans x4
                replace x5 := (HK.out.cell (World.block_lt_of_cell? w _ x5)).trans x5
                obtain ⟨n, hMn⟩ := HM.out
                have HMn := Aside0.mk hMn
                clear hMn
                have HKx := Aside0.mk (below_alloc HK.out (.cells #[.int .i64 (rd_T24 m0 (i : Int)).f0, .int .i64 (rd_T24 m0 (i : Int)).f1, .int .i64 (rd_T24 m0 (i : Int)).f2, .int .i64 (rd_T24 m0 (i : Int)).f3, .string (rd_T24 m0 (i : Int)).f4, .string (rd_T24 m0 (i : Int)).f5] 24))
                have HMx := Aside0.mk (HMn.out.alloc (.cells #[.int .i64 (rd_T24 m0 (i : Int)).f0, .int .i64 (rd_T24 m0 (i : Int)).f1, .int .i64 (rd_T24 m0 (i : Int)).f2, .int .i64 (rd_T24 m0 (i : Int)).f3, .string (rd_T24 m0 (i : Int)).f4, .string (rd_T24 m0 (i : Int)).f5] 24))
                by_cases hd : idF l0 (rd_T24 m0 (i : Int)).f0 = none
                · have HD' : Aside0 (∀ j : Nat, j < i + 1 → idF l0 (rd_T24 m0 (j : Int)).f0 = none) := ⟨fun j hj => by
                    rcases Nat.lt_or_ge j i with h | h
                    · exact HD.out j h
                    · obtain rfl : j = i := by omega
                      exact hd⟩
                  have HG : Aside0 (intF Value.bool (idB l0) (.int .i64 (rd_T24 m0 (i : Int)).f0) = none) := ⟨by rw [intF_at, idB, hd]; rfl⟩
                  clear hd
                  generalize hx : rd_T24 m0 (i : Int) = x at *
                  clear hx
                  go_wp2_with ((at_lookup; refine wpList_look rfl (.tmp 60) (.tmp 62) 45 false rfl 3 4 keyInt Try.underlying45 (.bool false) zeroBool B n (intF Value.bool (idB l0)) rfl HMx.out (.int .i64 x.f0) (.int .i64 x.f0) rfl (keyOf_int_mk Try.underlying3 (WalkArith.wf_i64 (by omega))) none HG.out ?_; simp only [looked_false, Option.getD_none]))
                  go_roundg (m0.length - (i + 1))
                  case measure => have := HI.out; omega
                  case rel => exact ⟨i + 1, by go_num, ⟨by omega, rfl⟩, HD', ⟨n, HMx.out⟩, HKx⟩
                · obtain ⟨y, hy⟩ := Option.ne_none_iff_exists'.1 hd
                  have HG : Aside0 (intF Value.bool (idB l0) (.int .i64 (rd_T24 m0 (i : Int)).f0) = some (.bool true)) := ⟨by rw [intF_at, idB, hy]; rfl⟩
                  clear hd hy
                  generalize hx : rd_T24 m0 (i : Int) = x at *
                  clear hx
                  go_wp2_with ((at_lookup; refine wpList_look rfl (.tmp 60) (.tmp 62) 45 false rfl 3 4 keyInt Try.underlying45 (.bool false) zeroBool B n (intF Value.bool (idB l0)) rfl HMx.out (.int .i64 x.f0) (.int .i64 x.f0) rfl (keyOf_int_mk Try.underlying3 (WalkArith.wf_i64 (by omega))) (some (.bool true)) HG.out ?_; simp only [looked_false, Option.getD_some]))
                  go_ret
                  exact ⟨rfl, HKx.out⟩
              · obtain rfl : i = m0.length := by omega
                have hvb := validL_both HV1.out HV2.out (by omega) HD.out
                rw [hvb] at HF3
                have hE : ∀ L : List S24, validL L = true → balL L acc day known = if (decide (-1000000000 ≤ balF acc day known L) && decide (balF acc day known L ≤ 1000000000)) = true then (balF acc day known L, 0) else (0, 3) := by
                  intro L hL
                  have := HDK.out
                  simp only [Bool.and_eq_true] at this
                  unfold balL
                  rw [hL, this.1.1, this.1.2.1, this.1.2.2, this.2.1, this.2.2]; rfl
                rw [hE l0 HV1.out] at HB1
                rw [hE m0 HV2.out] at HB2
                rw [hE _ hvb, balF_append] at HB3
                clear hvb hE HV1 HV2 HDK HI HD HM hlt hi
                generalize balF acc day known l0 = a at *
                generalize balF acc day known m0 = b at *
                by_cases ra : (decide (-1000000000 ≤ a) && decide (a ≤ 1000000000)) = true
                · rw [if_pos ra] at HB1
                  by_cases rb : (decide (-1000000000 ≤ b) && decide (b ≤ 1000000000)) = true
                  · rw [if_pos rb] at HB2
                    simp only [Bool.and_eq_true, decide_eq_true_eq] at ra rb
                    by_cases hi1 : 1000000000 < a + b
                    · rw [if_neg (by simp only [Bool.and_eq_true, decide_eq_true_eq]; omega)] at HB3
                      have e1 : decide (1000000000 < a + b) = true := decide_eq_true hi1
                      clear HF3
                      go_wp2_with (first
                          | ((with_reducible refine gate_dst (N := 66) rfl ?_); refine Kd.R_lit k24 (w0 := w) w.heap.size 24 rfl (N := 66) rfl (xs := ([] : List S24)) (inner := []) (ok := fun _ => True) (okp := fun _ => False) ?hr ⟨rfl, by simp⟩ (fun _ h => h.elim) trivial HK.out HK.out.size (by simp) ?_; (case hr => first | (go_simp; done) | (go_simp; rfl)); intro v1 w1 ho hb hg hat; have HO := Aside0.mk ho; replace HK := Aside0.mk hb; clear ho hb hg hat)
                          | ((with_reducible refine gate_builtin (b := .append) (xs := #[.tmp 66, .tmp 67]) rfl ?_); at_builtin; refine Kd.R_append_rows k24 (w0 := w) w.heap.size rfl (.tmp 66) (.tmp 67) 22 24 (.agg #[(.int .i64 0), (.int .i64 0), (.int .i64 0), (.int .i64 0), (.string ⟨#[]⟩), (.string ⟨#[]⟩)]) 64 rfl Try.underlying22 info24 rfl (by decide) (by omega) v1 ([] : List S24) l0 _ _ _ (fun _ => True) (fun _ => False) rfl rfl HO.out (Kd.C_below HR0.out HK.out) (fun x cs h => k24_KM _ _ x cs h) (fun _ h => h.elim) (fun _ _ => trivial) HK.out HK.out.size (by simp; omega) ?_; intro v2 w2 ho hb hg hat; replace HO := Aside0.mk ho; replace HK := Aside0.mk hb; clear ho hb hg hat)
                          | ((with_reducible refine gate_builtin (b := .append) (xs := #[.tmp 68, .tmp 69]) rfl ?_); at_builtin; refine Kd.R_append_rows k24 (w0 := w) w.heap.size rfl (.tmp 68) (.tmp 69) 22 24 (.agg #[(.int .i64 0), (.int .i64 0), (.int .i64 0), (.int .i64 0), (.string ⟨#[]⟩), (.string ⟨#[]⟩)]) 64 rfl Try.underlying22 info24 rfl (by decide) (by omega) v2 ([] ++ l0 : List S24) m0 _ _ _ (fun _ => True) (fun _ => False) rfl rfl HO.out (Kd.C_below HR1.out HK.out) (fun x cs h => k24_KM _ _ x cs h) (fun _ h => h.elim) (fun _ _ => trivial) HK.out HK.out.size (by simp; omega) ?_; intro v3 w3 ho hb hg hat; rw [List.nil_append] at ho; obtain ⟨A3, c3, rfl, hl3, hc3⟩ := Kd.R_reads ho; have HR3 := Aside0.mk hc3; have HL3 := Aside0.mk hl3; replace HK := Aside0.mk hb; clear HO ho hb hg hat hl3 hc3)
                          | (go_at_call 18; (with_reducible refine (ledger_Balance.calls A0 c0 l0 acc day known _ _ _ ?s1 HC0.out HB1.out).mono ?_); (case s1 => exact Kd.C_below HR0.out HK.out); rintro e w4 ⟨rfl, hb⟩; replace HK := Aside0.mk (below_step HK.out hb); replace HR3 := Aside0.mk (Kd.C_below HR3.out hb); clear hb)
                          | (go_at_call 18; (with_reducible refine (ledger_Balance.calls A1 c1 m0 acc day known _ _ _ ?s1 HC1.out HB2.out).mono ?_); (case s1 => exact Kd.C_below HR1.out HK.out); rintro e w5 ⟨rfl, hb⟩; replace HK := Aside0.mk (below_step HK.out hb); replace HR3 := Aside0.mk (Kd.C_below HR3.out hb); clear hb)
                          | (go_at_call 18; refine calls_of_args (args' := #[.slice A3 (l0 ++ m0).length c3, .string acc, .int .i64 day, .int .i64 known]) (by rw [List.length_append]) ?_; (with_reducible refine (ledger_Balance.calls A3 c3 (l0 ++ m0) acc day known _ _ _ ?s1 HL3.out HB3.out).mono ?_); (case s1 => exact HR3.out); rintro e w6 ⟨rfl, hb⟩; replace HK := Aside0.mk (below_step HK.out hb); replace HR3 := Aside0.mk (Kd.C_below HR3.out hb); clear hb))
                      go_ret
                      exact ⟨rfl, HK.out⟩
                    · by_cases hi2 : a + b < -1000000000
                      · rw [if_neg (by simp only [Bool.and_eq_true, decide_eq_true_eq]; omega)] at HB3
                        have e1 : decide (1000000000 < a + b) = false := decide_eq_false hi1
                        have e2 : decide (a + b < -1000000000) = true := decide_eq_true hi2
                        clear HF3
                        go_wp2_with (first
                            | ((with_reducible refine gate_dst (N := 66) rfl ?_); refine Kd.R_lit k24 (w0 := w) w.heap.size 24 rfl (N := 66) rfl (xs := ([] : List S24)) (inner := []) (ok := fun _ => True) (okp := fun _ => False) ?hr ⟨rfl, by simp⟩ (fun _ h => h.elim) trivial HK.out HK.out.size (by simp) ?_; (case hr => first | (go_simp; done) | (go_simp; rfl)); intro v1 w1 ho hb hg hat; have HO := Aside0.mk ho; replace HK := Aside0.mk hb; clear ho hb hg hat)
                            | ((with_reducible refine gate_builtin (b := .append) (xs := #[.tmp 66, .tmp 67]) rfl ?_); at_builtin; refine Kd.R_append_rows k24 (w0 := w) w.heap.size rfl (.tmp 66) (.tmp 67) 22 24 (.agg #[(.int .i64 0), (.int .i64 0), (.int .i64 0), (.int .i64 0), (.string ⟨#[]⟩), (.string ⟨#[]⟩)]) 64 rfl Try.underlying22 info24 rfl (by decide) (by omega) v1 ([] : List S24) l0 _ _ _ (fun _ => True) (fun _ => False) rfl rfl HO.out (Kd.C_below HR0.out HK.out) (fun x cs h => k24_KM _ _ x cs h) (fun _ h => h.elim) (fun _ _ => trivial) HK.out HK.out.size (by simp; omega) ?_; intro v2 w2 ho hb hg hat; replace HO := Aside0.mk ho; replace HK := Aside0.mk hb; clear ho hb hg hat)
                            | ((with_reducible refine gate_builtin (b := .append) (xs := #[.tmp 68, .tmp 69]) rfl ?_); at_builtin; refine Kd.R_append_rows k24 (w0 := w) w.heap.size rfl (.tmp 68) (.tmp 69) 22 24 (.agg #[(.int .i64 0), (.int .i64 0), (.int .i64 0), (.int .i64 0), (.string ⟨#[]⟩), (.string ⟨#[]⟩)]) 64 rfl Try.underlying22 info24 rfl (by decide) (by omega) v2 ([] ++ l0 : List S24) m0 _ _ _ (fun _ => True) (fun _ => False) rfl rfl HO.out (Kd.C_below HR1.out HK.out) (fun x cs h => k24_KM _ _ x cs h) (fun _ h => h.elim) (fun _ _ => trivial) HK.out HK.out.size (by simp; omega) ?_; intro v3 w3 ho hb hg hat; rw [List.nil_append] at ho; obtain ⟨A3, c3, rfl, hl3, hc3⟩ := Kd.R_reads ho; have HR3 := Aside0.mk hc3; have HL3 := Aside0.mk hl3; replace HK := Aside0.mk hb; clear HO ho hb hg hat hl3 hc3)
                            | (go_at_call 18; (with_reducible refine (ledger_Balance.calls A0 c0 l0 acc day known _ _ _ ?s1 HC0.out HB1.out).mono ?_); (case s1 => exact Kd.C_below HR0.out HK.out); rintro e w4 ⟨rfl, hb⟩; replace HK := Aside0.mk (below_step HK.out hb); replace HR3 := Aside0.mk (Kd.C_below HR3.out hb); clear hb)
                            | (go_at_call 18; (with_reducible refine (ledger_Balance.calls A1 c1 m0 acc day known _ _ _ ?s1 HC1.out HB2.out).mono ?_); (case s1 => exact Kd.C_below HR1.out HK.out); rintro e w5 ⟨rfl, hb⟩; replace HK := Aside0.mk (below_step HK.out hb); replace HR3 := Aside0.mk (Kd.C_below HR3.out hb); clear hb)
                            | (go_at_call 18; refine calls_of_args (args' := #[.slice A3 (l0 ++ m0).length c3, .string acc, .int .i64 day, .int .i64 known]) (by rw [List.length_append]) ?_; (with_reducible refine (ledger_Balance.calls A3 c3 (l0 ++ m0) acc day known _ _ _ ?s1 HL3.out HB3.out).mono ?_); (case s1 => exact HR3.out); rintro e w6 ⟨rfl, hb⟩; replace HK := Aside0.mk (below_step HK.out hb); replace HR3 := Aside0.mk (Kd.C_below HR3.out hb); clear hb))
                        go_ret
                        exact ⟨rfl, HK.out⟩
                      · rw [if_pos (by simp only [Bool.and_eq_true, decide_eq_true_eq]; omega)] at HB3
                        have e1 : decide (1000000000 < a + b) = false := decide_eq_false hi1
                        have e2 : decide (a + b < -1000000000) = false := decide_eq_false hi2
                        go_wp2_with (first
                            | ((with_reducible refine gate_dst (N := 66) rfl ?_); refine Kd.R_lit k24 (w0 := w) w.heap.size 24 rfl (N := 66) rfl (xs := ([] : List S24)) (inner := []) (ok := fun _ => True) (okp := fun _ => False) ?hr ⟨rfl, by simp⟩ (fun _ h => h.elim) trivial HK.out HK.out.size (by simp) ?_; (case hr => first | (go_simp; done) | (go_simp; rfl)); intro v1 w1 ho hb hg hat; have HO := Aside0.mk ho; replace HK := Aside0.mk hb; clear ho hb hg hat)
                            | ((with_reducible refine gate_builtin (b := .append) (xs := #[.tmp 66, .tmp 67]) rfl ?_); at_builtin; refine Kd.R_append_rows k24 (w0 := w) w.heap.size rfl (.tmp 66) (.tmp 67) 22 24 (.agg #[(.int .i64 0), (.int .i64 0), (.int .i64 0), (.int .i64 0), (.string ⟨#[]⟩), (.string ⟨#[]⟩)]) 64 rfl Try.underlying22 info24 rfl (by decide) (by omega) v1 ([] : List S24) l0 _ _ _ (fun _ => True) (fun _ => False) rfl rfl HO.out (Kd.C_below HR0.out HK.out) (fun x cs h => k24_KM _ _ x cs h) (fun _ h => h.elim) (fun _ _ => trivial) HK.out HK.out.size (by simp; omega) ?_; intro v2 w2 ho hb hg hat; replace HO := Aside0.mk ho; replace HK := Aside0.mk hb; clear ho hb hg hat)
                            | ((with_reducible refine gate_builtin (b := .append) (xs := #[.tmp 68, .tmp 69]) rfl ?_); at_builtin; refine Kd.R_append_rows k24 (w0 := w) w.heap.size rfl (.tmp 68) (.tmp 69) 22 24 (.agg #[(.int .i64 0), (.int .i64 0), (.int .i64 0), (.int .i64 0), (.string ⟨#[]⟩), (.string ⟨#[]⟩)]) 64 rfl Try.underlying22 info24 rfl (by decide) (by omega) v2 ([] ++ l0 : List S24) m0 _ _ _ (fun _ => True) (fun _ => False) rfl rfl HO.out (Kd.C_below HR1.out HK.out) (fun x cs h => k24_KM _ _ x cs h) (fun _ h => h.elim) (fun _ _ => trivial) HK.out HK.out.size (by simp; omega) ?_; intro v3 w3 ho hb hg hat; rw [List.nil_append] at ho; obtain ⟨A3, c3, rfl, hl3, hc3⟩ := Kd.R_reads ho; have HR3 := Aside0.mk hc3; have HL3 := Aside0.mk hl3; replace HK := Aside0.mk hb; clear HO ho hb hg hat hl3 hc3)
                            | (go_at_call 18; (with_reducible refine (ledger_Balance.calls A0 c0 l0 acc day known _ _ _ ?s1 HC0.out HB1.out).mono ?_); (case s1 => exact Kd.C_below HR0.out HK.out); rintro e w4 ⟨rfl, hb⟩; replace HK := Aside0.mk (below_step HK.out hb); replace HR3 := Aside0.mk (Kd.C_below HR3.out hb); clear hb)
                            | (go_at_call 18; (with_reducible refine (ledger_Balance.calls A1 c1 m0 acc day known _ _ _ ?s1 HC1.out HB2.out).mono ?_); (case s1 => exact Kd.C_below HR1.out HK.out); rintro e w5 ⟨rfl, hb⟩; replace HK := Aside0.mk (below_step HK.out hb); replace HR3 := Aside0.mk (Kd.C_below HR3.out hb); clear hb)
                            | (go_at_call 18; refine calls_of_args (args' := #[.slice A3 (l0 ++ m0).length c3, .string acc, .int .i64 day, .int .i64 known]) (by rw [List.length_append]) ?_; (with_reducible refine (ledger_Balance.calls A3 c3 (l0 ++ m0) acc day known _ _ _ ?s1 HL3.out HB3.out).mono ?_); (case s1 => exact HR3.out); rintro e w6 ⟨rfl, hb⟩; replace HK := Aside0.mk (below_step HK.out hb); replace HR3 := Aside0.mk (Kd.C_below HR3.out hb); clear hb)
                            | (go_at_call 15; refine calls_of_args (args' := #[.slice A3 (l0 ++ m0).length c3]) (by rw [List.length_append]) ?_; (with_reducible refine (ledger_Valid.calls A3 c3 (l0 ++ m0) true _ ?s1 HL3.out HF3.out).mono ?_); (case s1 => exact HR3.out); rintro e w7 ⟨rfl, hb⟩; replace HK := Aside0.mk (below_step HK.out hb); clear hb))
                        go_ret
                        exact ⟨rfl, HK.out⟩
                  · rw [if_neg rb] at HB2
                    clear ra rb HF3
                    generalize hy : (if (decide (-1000000000 ≤ a + b) && decide (a + b ≤ 1000000000)) = true then (a + b, (0 : Int)) else (0, 3)) = y at HB3
                    obtain ⟨y1, y2⟩ := y
                    clear hy
                    go_wp2_with (first
                        | ((with_reducible refine gate_dst (N := 66) rfl ?_); refine Kd.R_lit k24 (w0 := w) w.heap.size 24 rfl (N := 66) rfl (xs := ([] : List S24)) (inner := []) (ok := fun _ => True) (okp := fun _ => False) ?hr ⟨rfl, by simp⟩ (fun _ h => h.elim) trivial HK.out HK.out.size (by simp) ?_; (case hr => first | (go_simp; done) | (go_simp; rfl)); intro v1 w1 ho hb hg hat; have HO := Aside0.mk ho; replace HK := Aside0.mk hb; clear ho hb hg hat)
                        | ((with_reducible refine gate_builtin (b := .append) (xs := #[.tmp 66, .tmp 67]) rfl ?_); at_builtin; refine Kd.R_append_rows k24 (w0 := w) w.heap.size rfl (.tmp 66) (.tmp 67) 22 24 (.agg #[(.int .i64 0), (.int .i64 0), (.int .i64 0), (.int .i64 0), (.string ⟨#[]⟩), (.string ⟨#[]⟩)]) 64 rfl Try.underlying22 info24 rfl (by decide) (by omega) v1 ([] : List S24) l0 _ _ _ (fun _ => True) (fun _ => False) rfl rfl HO.out (Kd.C_below HR0.out HK.out) (fun x cs h => k24_KM _ _ x cs h) (fun _ h => h.elim) (fun _ _ => trivial) HK.out HK.out.size (by simp; omega) ?_; intro v2 w2 ho hb hg hat; replace HO := Aside0.mk ho; replace HK := Aside0.mk hb; clear ho hb hg hat)
                        | ((with_reducible refine gate_builtin (b := .append) (xs := #[.tmp 68, .tmp 69]) rfl ?_); at_builtin; refine Kd.R_append_rows k24 (w0 := w) w.heap.size rfl (.tmp 68) (.tmp 69) 22 24 (.agg #[(.int .i64 0), (.int .i64 0), (.int .i64 0), (.int .i64 0), (.string ⟨#[]⟩), (.string ⟨#[]⟩)]) 64 rfl Try.underlying22 info24 rfl (by decide) (by omega) v2 ([] ++ l0 : List S24) m0 _ _ _ (fun _ => True) (fun _ => False) rfl rfl HO.out (Kd.C_below HR1.out HK.out) (fun x cs h => k24_KM _ _ x cs h) (fun _ h => h.elim) (fun _ _ => trivial) HK.out HK.out.size (by simp; omega) ?_; intro v3 w3 ho hb hg hat; rw [List.nil_append] at ho; obtain ⟨A3, c3, rfl, hl3, hc3⟩ := Kd.R_reads ho; have HR3 := Aside0.mk hc3; have HL3 := Aside0.mk hl3; replace HK := Aside0.mk hb; clear HO ho hb hg hat hl3 hc3)
                        | (go_at_call 18; (with_reducible refine (ledger_Balance.calls A0 c0 l0 acc day known _ _ _ ?s1 HC0.out HB1.out).mono ?_); (case s1 => exact Kd.C_below HR0.out HK.out); rintro e w4 ⟨rfl, hb⟩; replace HK := Aside0.mk (below_step HK.out hb); replace HR3 := Aside0.mk (Kd.C_below HR3.out hb); clear hb)
                        | (go_at_call 18; (with_reducible refine (ledger_Balance.calls A1 c1 m0 acc day known _ _ _ ?s1 HC1.out HB2.out).mono ?_); (case s1 => exact Kd.C_below HR1.out HK.out); rintro e w5 ⟨rfl, hb⟩; replace HK := Aside0.mk (below_step HK.out hb); replace HR3 := Aside0.mk (Kd.C_below HR3.out hb); clear hb)
                        | (go_at_call 18; refine calls_of_args (args' := #[.slice A3 (l0 ++ m0).length c3, .string acc, .int .i64 day, .int .i64 known]) (by rw [List.length_append]) ?_; (with_reducible refine (ledger_Balance.calls A3 c3 (l0 ++ m0) acc day known _ _ _ ?s1 HL3.out HB3.out).mono ?_); (case s1 => exact HR3.out); rintro e w6 ⟨rfl, hb⟩; replace HK := Aside0.mk (below_step HK.out hb); replace HR3 := Aside0.mk (Kd.C_below HR3.out hb); clear hb))
                    go_ret
                    exact ⟨rfl, HK.out⟩
                · rw [if_neg ra] at HB1
                  generalize hz : (if (decide (-1000000000 ≤ b) && decide (b ≤ 1000000000)) = true then (b, (0 : Int)) else (0, 3)) = z at HB2
                  obtain ⟨z1, z2⟩ := z
                  generalize hy : (if (decide (-1000000000 ≤ a + b) && decide (a + b ≤ 1000000000)) = true then (a + b, (0 : Int)) else (0, 3)) = y at HB3
                  obtain ⟨y1, y2⟩ := y
                  clear ra hz hy HF3
                  go_wp2_with (first
                      | ((with_reducible refine gate_dst (N := 66) rfl ?_); refine Kd.R_lit k24 (w0 := w) w.heap.size 24 rfl (N := 66) rfl (xs := ([] : List S24)) (inner := []) (ok := fun _ => True) (okp := fun _ => False) ?hr ⟨rfl, by simp⟩ (fun _ h => h.elim) trivial HK.out HK.out.size (by simp) ?_; (case hr => first | (go_simp; done) | (go_simp; rfl)); intro v1 w1 ho hb hg hat; have HO := Aside0.mk ho; replace HK := Aside0.mk hb; clear ho hb hg hat)
                      | ((with_reducible refine gate_builtin (b := .append) (xs := #[.tmp 66, .tmp 67]) rfl ?_); at_builtin; refine Kd.R_append_rows k24 (w0 := w) w.heap.size rfl (.tmp 66) (.tmp 67) 22 24 (.agg #[(.int .i64 0), (.int .i64 0), (.int .i64 0), (.int .i64 0), (.string ⟨#[]⟩), (.string ⟨#[]⟩)]) 64 rfl Try.underlying22 info24 rfl (by decide) (by omega) v1 ([] : List S24) l0 _ _ _ (fun _ => True) (fun _ => False) rfl rfl HO.out (Kd.C_below HR0.out HK.out) (fun x cs h => k24_KM _ _ x cs h) (fun _ h => h.elim) (fun _ _ => trivial) HK.out HK.out.size (by simp; omega) ?_; intro v2 w2 ho hb hg hat; replace HO := Aside0.mk ho; replace HK := Aside0.mk hb; clear ho hb hg hat)
                      | ((with_reducible refine gate_builtin (b := .append) (xs := #[.tmp 68, .tmp 69]) rfl ?_); at_builtin; refine Kd.R_append_rows k24 (w0 := w) w.heap.size rfl (.tmp 68) (.tmp 69) 22 24 (.agg #[(.int .i64 0), (.int .i64 0), (.int .i64 0), (.int .i64 0), (.string ⟨#[]⟩), (.string ⟨#[]⟩)]) 64 rfl Try.underlying22 info24 rfl (by decide) (by omega) v2 ([] ++ l0 : List S24) m0 _ _ _ (fun _ => True) (fun _ => False) rfl rfl HO.out (Kd.C_below HR1.out HK.out) (fun x cs h => k24_KM _ _ x cs h) (fun _ h => h.elim) (fun _ _ => trivial) HK.out HK.out.size (by simp; omega) ?_; intro v3 w3 ho hb hg hat; rw [List.nil_append] at ho; obtain ⟨A3, c3, rfl, hl3, hc3⟩ := Kd.R_reads ho; have HR3 := Aside0.mk hc3; have HL3 := Aside0.mk hl3; replace HK := Aside0.mk hb; clear HO ho hb hg hat hl3 hc3)
                      | (go_at_call 18; (with_reducible refine (ledger_Balance.calls A0 c0 l0 acc day known _ _ _ ?s1 HC0.out HB1.out).mono ?_); (case s1 => exact Kd.C_below HR0.out HK.out); rintro e w4 ⟨rfl, hb⟩; replace HK := Aside0.mk (below_step HK.out hb); replace HR3 := Aside0.mk (Kd.C_below HR3.out hb); clear hb)
                      | (go_at_call 18; (with_reducible refine (ledger_Balance.calls A1 c1 m0 acc day known _ _ _ ?s1 HC1.out HB2.out).mono ?_); (case s1 => exact Kd.C_below HR1.out HK.out); rintro e w5 ⟨rfl, hb⟩; replace HK := Aside0.mk (below_step HK.out hb); replace HR3 := Aside0.mk (Kd.C_below HR3.out hb); clear hb)
                      | (go_at_call 18; refine calls_of_args (args' := #[.slice A3 (l0 ++ m0).length c3, .string acc, .int .i64 day, .int .i64 known]) (by rw [List.length_append]) ?_; (with_reducible refine (ledger_Balance.calls A3 c3 (l0 ++ m0) acc day known _ _ _ ?s1 HL3.out HB3.out).mono ?_); (case s1 => exact HR3.out); rintro e w6 ⟨rfl, hb⟩; replace HK := Aside0.mk (below_step HK.out hb); replace HR3 := Aside0.mk (Kd.C_below HR3.out hb); clear hb))
                  go_ret
                  exact ⟨rfl, HK.out⟩
      · rw [Bool.not_eq_true] at hb3
        rw [hb3] at HA
        clear hb1 hb2 hb3
        go_enter Try.func9, Try.ntmps9
        go_wp2_with (first
          | (go_at_call 11; (with_reducible refine (cohousinglaw33_head.calls true _ HH.out).mono ?_); rintro e w1 ⟨rfl, hb⟩; replace HB := Aside0.mk (below_step HB.out hb); clear hb)
          | (go_at_call 25; (with_reducible refine (cohousinglaw33_usable.calls ku A0 c0 l0 day known true _ ?s1 HC0.out HU.out).mono ?_); (case s1 => exact Kd.C_below HR0.out HB.out); rintro e w2 ⟨rfl, hb⟩; replace HB := Aside0.mk (below_step HB.out hb); clear hb)
          | (go_at_call 25; (with_reducible refine (cohousinglaw33_usable.calls kv A1 c1 m0 day known true _ ?s1 HC1.out HV.out).mono ?_); (case s1 => exact Kd.C_below HR1.out HB.out); rintro e w3 ⟨rfl, hb⟩; replace HB := Aside0.mk (below_step HB.out hb); clear hb)
          | (go_at_call 26; (with_reducible refine (cohousingref33_Account.calls ka acc false _ HA.out).mono ?_); rintro e w4 ⟨rfl, hd⟩; have hb := hd.below; replace HB := Aside0.mk (below_step HB.out hb); clear hb hd))
        go_ret
        exact ⟨rfl, HB.out⟩
    · rw [Bool.not_eq_true] at hb2
      rw [hb2] at HV
      clear hb1 hb2
      go_enter Try.func9, Try.ntmps9
      go_wp2_with (first
        | (go_at_call 11; (with_reducible refine (cohousinglaw33_head.calls true _ HH.out).mono ?_); rintro e w1 ⟨rfl, hb⟩; replace HB := Aside0.mk (below_step HB.out hb); clear hb)
        | (go_at_call 25; (with_reducible refine (cohousinglaw33_usable.calls ku A0 c0 l0 day known true _ ?s1 HC0.out HU.out).mono ?_); (case s1 => exact Kd.C_below HR0.out HB.out); rintro e w2 ⟨rfl, hb⟩; replace HB := Aside0.mk (below_step HB.out hb); clear hb)
        | (go_at_call 25; (with_reducible refine (cohousinglaw33_usable.calls kv A1 c1 m0 day known false _ ?s1 HC1.out HV.out).mono ?_); (case s1 => exact Kd.C_below HR1.out HB.out); rintro e w3 ⟨rfl, hb⟩; replace HB := Aside0.mk (below_step HB.out hb); clear hb))
      go_ret
      exact ⟨rfl, HB.out⟩
  · rw [Bool.not_eq_true] at hb1
    rw [hb1] at HU
    clear hb1
    go_enter Try.func9, Try.ntmps9
    go_wp2_with (first
      | (go_at_call 11; (with_reducible refine (cohousinglaw33_head.calls true _ HH.out).mono ?_); rintro e w1 ⟨rfl, hb⟩; replace HB := Aside0.mk (below_step HB.out hb); clear hb)
      | (go_at_call 25; (with_reducible refine (cohousinglaw33_usable.calls ku A0 c0 l0 day known false _ ?s1 HC0.out HU.out).mono ?_); (case s1 => exact Kd.C_below HR0.out HB.out); rintro e w2 ⟨rfl, hb⟩; replace HB := Aside0.mk (below_step HB.out hb); clear hb))
    go_ret
    exact ⟨rfl, HB.out⟩
end Go.Proofs.Ytnheelncgpgkiaa.P
