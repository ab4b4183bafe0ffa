/- P33.3, the walk of the law and its plain law in one: for all inputs LedgerPosts returns true. -/
import Derived.Test.YtnheelncgpgkiaaPureBase
import Derived.Test.YtnheelncgpgkiaaPR1
import Derived.Deep.RegionHeld3
namespace Go.Proofs.Ytnheelncgpgkiaa.P
open Go.RowKit Go.Proofs.YtnheelncgpgkiaaW.PrintWords Go.Proofs.YtnheelncgpgkiaaW.PrintLast Go.Proofs.YtnheelncgpgkiaaW.PrintMore Go.Proofs.Ytnheelncgpgkiaa.M
set_option linter.unusedVariables false
set_option linter.unusedSimpArgs false

def okP (l : List S24) (day known : Int) : Bool := fewL l && validL l && (decide (0 ≤ day) && decide (day ≤ 36524)) && (decide (0 ≤ known) && decide (known ≤ 36524))
theorem validL_snoc {l : List S24} {x : S24} (hl : validL l = true) (hx : validE x = true) (h : l.length + 1 ≤ 4000) (hd : idF l x.f0 = none) : validL (l ++ [x]) = true := by
  unfold validL at hl ⊢
  simp only [Bool.and_eq_true, decide_eq_true_eq] at hl ⊢
  refine ⟨⟨by rw [List.length_append]; exact h, by rw [List.all_append, hl.1.2]; simp [hx]⟩, ?_⟩
  rw [List.map_append, List.nodup_append]
  refine ⟨hl.2, by simp, fun a ha b hb e => ?_⟩
  subst e
  obtain rfl : a = x.f0 := by simpa using hb
  have h2 := (idF_isSome l x.f0).2 ha
  rw [hd] at h2; cases h2
theorem amt_two (x : S24) (s : ByteArray) (day known : Int) : amt x s day known = if (decide (x.f1 ≤ day) && decide (x.f2 ≤ known)) = true then (if s = x.f4 then x.f3 else if s = x.f5 then -x.f3 else 0) else 0 := by
  rw [amt_eq]
  by_cases h : day < x.f1 ∨ known < x.f2
  · rw [if_pos h, if_neg]
    simp only [Bool.and_eq_true, decide_eq_true_eq]; omega
  · have e4 : (x.f4 = s) = (s = x.f4) := propext eq_comm
    have e5 : (x.f5 = s) = (s = x.f5) := propext eq_comm
    rw [if_neg h, if_pos (show (decide (x.f1 ≤ day) && decide (x.f2 ≤ known)) = true by simp only [Bool.and_eq_true, decide_eq_true_eq]; omega)]
    simp only [e4, e5]
theorem postL_cases {l : List S24} (x : S24) (hv : validL l = true) (h60 : l.length ≤ 60) : ((postL l x).1 = [] ∧ (postL l x).2 ≠ 0) ∨ (postL l x = (l ++ [x], 0) ∧ validL (l ++ [x]) = true ∧ validE x = true) := by
  unfold postL postF
  by_cases hx : validE x = true
  · rw [hv, hx, Bool.and_self, if_pos rfl, if_neg (by omega)]
    by_cases hb : (idF l x.f0).isSome = true
    · rw [if_pos hb]; exact .inl ⟨rfl, by decide⟩
    · rw [if_neg hb]; exact .inr ⟨rfl, validL_snoc hv hx (by omega) (by simpa using hb), rfl⟩
  · rw [if_neg (by rw [Bool.and_eq_true]; exact fun h => hx h.2)]; exact .inl ⟨rfl, by decide⟩

attribute [local go_sem high] eqA24
set_option maxHeartbeats 16000000 in
set_option maxRecDepth 100000 in
theorem cohousinglaw33_LedgerPosts.calls (A0 : Option Addr) (c0 : Nat) (l0 : List S24) (x : S24) (acc : ByteArray) (day known : Int) (w : World)
    (hr0 : Kd.C k24 w A0 l0.length l0) (hc0 : l0.length ≤ c0)
    (wl : l0.length ≤ maxLen ∧ ∀ x ∈ l0, wfE x) (wx : wfE x) (wa : acc.size ≤ maxLen) (w3 : (Lit.int .i64 day).wf = true) (w4 : (Lit.int .i64 known).wf = true) :
    Calls Try.prog 5 #[.slice A0 l0.length c0, (.agg #[.int .i64 x.f0, .int .i64 x.f1, .int .i64 x.f2, .int .i64 x.f3, .string x.f4, .string x.f5]), .string acc, .int .i64 day, .int .i64 known] w fun e w' => e = .returned (.bool true) ∧ Below w.heap.size w w' := by
  have hs := smallL_of wl.2
  have ha := small_of wa
  have hsx := smallE_of wx
  have hl : l0.length ≤ 9223372036854775807 := by have := wl.1; simp only [maxLen] at this; omega
  obtain ⟨ku, hu⟩ := (usable_ev l0 hl day known).rounds
  obtain ⟨ka, hac⟩ := (acc_ev acc).rounds
  obtain ⟨kf, hfw⟩ := (few_ev [x] (by simp)).rounds
  obtain ⟨ks, hsm⟩ := (same_ev l0 hl).rounds
  have HU : Aside0 (cohousinglaw33_usable.f ku l0 day known = some (okP l0 day known)) := ⟨hu⟩
  have HA := Aside0.mk hac
  have HFew := Aside0.mk hfw
  have HSame := Aside0.mk hsm
  have HH : Aside0 (cohousinglaw33_head.f = some true) := ⟨rfl⟩
  have hu24 := Try.underlying24
  have HR0 := Aside0.mk hr0
  have HC0 := Aside0.mk hc0
  have HB := Aside0.mk (below_alloc (Below.refl w.heap.size w) (.cells #[.int .i64 x.f0, .int .i64 x.f1, .int .i64 x.f2, .int .i64 x.f3, .string x.f4, .string x.f5] 24))
  have BK := Aside0.mk (blk_new w (.cells #[.int .i64 x.f0, .int .i64 x.f1, .int .i64 x.f2, .int .i64 x.f3, .string x.f4, .string x.f5] 24))
  have HB1 := Aside0.mk (balance_f hs ha day known)
  have HS := Aside0.mk hs
  have HSX := Aside0.mk hsx
  have HSA := Aside0.mk ha
  have hPf : ledger_Post.f l0 x.f0 x.f1 x.f2 x.f3 x.f4 x.f5 = some (postL l0 x) := by rw [ledger_Post.f, if_pos (by rw [hs, hsx]; rfl)]
  clear hr0 hc0 wl wx wa w3 w4 hu hac hfw hsm hs ha hsx
  by_cases hb1 : okP l0 day known = true
  · rw [hb1] at HU
    by_cases hb2 : fewL [x] = true
    · rw [hb2] at HFew
      by_cases hb3 : accB acc = true
      · rw [hb3] at HA
        unfold okP at hb1
        simp only [Bool.and_eq_true] at hb1
        obtain ⟨⟨⟨hf1, hv1⟩, hd1⟩, hkn⟩ := hb1
        have hl60 : l0.length ≤ 60 := by
          unfold fewL at hf1
          simp only [Bool.and_eq_true, decide_eq_true_eq] at hf1
          exact hf1.1
        rcases postL_cases x hv1 hl60 with ⟨hr1, hr2⟩ | ⟨hpost, hvm, hxv⟩
        · generalize postL l0 x = rr at *
          obtain ⟨r1, r2⟩ := rr
          simp only at hr1 hr2
          subst hr1
          have HPF := Aside0.mk hPf
          have e2 : (r2 != 0) = true := by simpa [bne_iff_ne] using hr2
          clear hr2 hPf hb2 hb3 hf1 hv1 hd1 hkn
          go_enter Try.func5, Try.ntmps5
          go_wp2_with (first
            | (go_at_call 11; (with_reducible refine (cohousinglaw33_head.calls true _ HH.out).mono ?_); rintro e w1 ⟨rfl, hb⟩; replace HB := Aside0.mk (below_step HB.out hb); replace BK := Aside0.mk (blk_below BK.out hb); have z0 : w1.cell? ⟨w.heap.size, 0, none⟩ = some (.int .i64 x.f0) := (blk_cell BK.out 0).trans rfl; have z1 : w1.cell? ⟨w.heap.size, 1, none⟩ = some (.int .i64 x.f1) := (blk_cell BK.out 1).trans rfl; have z2 : w1.cell? ⟨w.heap.size, 2, none⟩ = some (.int .i64 x.f2) := (blk_cell BK.out 2).trans rfl; have z3 : w1.cell? ⟨w.heap.size, 3, none⟩ = some (.int .i64 x.f3) := (blk_cell BK.out 3).trans rfl; have z4 : w1.cell? ⟨w.heap.size, 4, none⟩ = some (.string x.f4) := (blk_cell BK.out 4).trans rfl; have z5 : w1.cell? ⟨w.heap.size, 5, none⟩ = some (.string x.f5) := (blk_cell BK.out 5).trans rfl; clear hb)
            | (go_at_call 25; (with_reducible refine (cohousinglaw33_usable.calls ku A0 c0 l0 day known true _ ?s1 HC0.out HU.out).mono ?_); (case s1 => exact Kd.C_below HR0.out HB.out); rintro e w2 ⟨rfl, hb⟩; replace HB := Aside0.mk (below_step HB.out hb); replace BK := Aside0.mk (blk_below BK.out hb); have z0 : w2.cell? ⟨w.heap.size, 0, none⟩ = some (.int .i64 x.f0) := (blk_cell BK.out 0).trans rfl; have z1 : w2.cell? ⟨w.heap.size, 1, none⟩ = some (.int .i64 x.f1) := (blk_cell BK.out 1).trans rfl; have z2 : w2.cell? ⟨w.heap.size, 2, none⟩ = some (.int .i64 x.f2) := (blk_cell BK.out 2).trans rfl; have z3 : w2.cell? ⟨w.heap.size, 3, none⟩ = some (.int .i64 x.f3) := (blk_cell BK.out 3).trans rfl; have z4 : w2.cell? ⟨w.heap.size, 4, none⟩ = some (.string x.f4) := (blk_cell BK.out 4).trans rfl; have z5 : w2.cell? ⟨w.heap.size, 5, none⟩ = some (.string x.f5) := (blk_cell BK.out 5).trans rfl; clear hb)
            | (go_at_call 12; refine calls_of_args (args' := #[.slice (some ⟨w2.heap.size, 0, none⟩) ([x] : List S24).length 1]) rfl ?_; (with_reducible refine (cohousingref33_Few.calls kf _ 1 [x] true _ ?s1 (by simp) HFew.out).mono ?_); (case s1 => exact k24_one x (by first | exact blk_new _ _ | exact blk_drew (blk_new _ _))); rintro e w3 ⟨rfl, hd⟩; have hb := hd.below; replace HB := Aside0.mk (below_step (below_alloc HB.out _) hb); replace BK := Aside0.mk (blk_below (blk_alloc BK.out _) hb); have z0 : w3.cell? ⟨w.heap.size, 0, none⟩ = some (.int .i64 x.f0) := (blk_cell BK.out 0).trans rfl; have z1 : w3.cell? ⟨w.heap.size, 1, none⟩ = some (.int .i64 x.f1) := (blk_cell BK.out 1).trans rfl; have z2 : w3.cell? ⟨w.heap.size, 2, none⟩ = some (.int .i64 x.f2) := (blk_cell BK.out 2).trans rfl; have z3 : w3.cell? ⟨w.heap.size, 3, none⟩ = some (.int .i64 x.f3) := (blk_cell BK.out 3).trans rfl; have z4 : w3.cell? ⟨w.heap.size, 4, none⟩ = some (.string x.f4) := (blk_cell BK.out 4).trans rfl; have z5 : w3.cell? ⟨w.heap.size, 5, none⟩ = some (.string x.f5) := (blk_cell BK.out 5).trans rfl; clear hb hd)
            | (go_at_call 26; (with_reducible refine (cohousingref33_Account.calls ka acc true _ HA.out).mono ?_); rintro e w4 ⟨rfl, hd⟩; have hb := hd.below; replace HB := Aside0.mk (below_step HB.out hb); replace BK := Aside0.mk (blk_below BK.out hb); have z0 : w4.cell? ⟨w.heap.size, 0, none⟩ = some (.int .i64 x.f0) := (blk_cell BK.out 0).trans rfl; have z1 : w4.cell? ⟨w.heap.size, 1, none⟩ = some (.int .i64 x.f1) := (blk_cell BK.out 1).trans rfl; have z2 : w4.cell? ⟨w.heap.size, 2, none⟩ = some (.int .i64 x.f2) := (blk_cell BK.out 2).trans rfl; have z3 : w4.cell? ⟨w.heap.size, 3, none⟩ = some (.int .i64 x.f3) := (blk_cell BK.out 3).trans rfl; have z4 : w4.cell? ⟨w.heap.size, 4, none⟩ = some (.string x.f4) := (blk_cell BK.out 4).trans rfl; have z5 : w4.cell? ⟨w.heap.size, 5, none⟩ = some (.string x.f5) := (blk_cell BK.out 5).trans rfl; clear hb hd)
            | (go_at_call 13; (with_reducible refine (ledger_Post.calls A0 c0 l0 x.f0 x.f1 x.f2 x.f3 x.f4 x.f5 _ r2 _ ?s1 HC0.out HPF.out).mono ?_); (case s1 => exact Kd.C_below HR0.out HB.out); rintro e w5 ⟨v1, rfl, hR, hb⟩; obtain ⟨A1, c1, rfl, hl1, hc1⟩ := Kd.R_reads hR; have HR1 := Aside0.mk hc1; have HL1 := Aside0.mk hl1; replace HB := Aside0.mk (below_step HB.out hb); replace BK := Aside0.mk (blk_below BK.out hb); have z0 : w5.cell? ⟨w.heap.size, 0, none⟩ = some (.int .i64 x.f0) := (blk_cell BK.out 0).trans rfl; have z1 : w5.cell? ⟨w.heap.size, 1, none⟩ = some (.int .i64 x.f1) := (blk_cell BK.out 1).trans rfl; have z2 : w5.cell? ⟨w.heap.size, 2, none⟩ = some (.int .i64 x.f2) := (blk_cell BK.out 2).trans rfl; have z3 : w5.cell? ⟨w.heap.size, 3, none⟩ = some (.int .i64 x.f3) := (blk_cell BK.out 3).trans rfl; have z4 : w5.cell? ⟨w.heap.size, 4, none⟩ = some (.string x.f4) := (blk_cell BK.out 4).trans rfl; have z5 : w5.cell? ⟨w.heap.size, 5, none⟩ = some (.string x.f5) := (blk_cell BK.out 5).trans rfl; clear hR hl1 hc1 hb))
          go_ret
          exact ⟨rfl, HB.out⟩
        · rw [hpost] at hPf
          have HPF := Aside0.mk hPf
          have HVF : Aside0 (ledger_Valid.f (l0 ++ [x]) = some true) := ⟨by rw [valid_f (by rw [List.all_append, HS.out]; simp [HSX.out]), hvm]⟩
          have hE : ∀ L : List S24, validL L = true → L.all smallE = true → ledger_Balance.f L acc day known = some (if (decide (-1000000000 ≤ balF acc day known L) && decide (balF acc day known L ≤ 1000000000)) = true then (balF acc day known L, 0) else (0, 3)) := by
            intro L hL hLs
            rw [balance_f hLs HSA.out]
            unfold balL
            rw [hL, hb3, hd1.1, hd1.2, hkn.1, hkn.2]; rfl
          have hf1' := hE l0 hv1 HS.out
          have hf2' := hE (l0 ++ [x]) hvm (by rw [List.all_append, HS.out]; simp [HSX.out])
          rw [balF_append, show balF acc day known [x] = amt x acc day known by simp [balF], amt_two] at hf2'
          have hxc := validE_cents hxv
          have HXN := Aside0.mk (validE_ne hxv)
          have HML : Aside0 ((l0 ++ [x]).length = l0.length + 1) := ⟨by simp⟩
          have HMT : Aside0 ((l0 ++ [x]).take l0.length = l0) := ⟨by simp⟩
          have HMX : Aside0 (rd_T24 (l0 ++ [x]) (l0.length : Int) = x) := ⟨by rw [rd_get (by simp)]; simp⟩
          generalize balF acc day known l0 = a at *
          have HFA0 := Aside0.mk hf1'
          have HFB0 := Aside0.mk hf2'
          clear hE hf1' hf2' hPf hb2 hb3 hf1 hv1 hd1 hkn hvm hxv hpost HB1 HSA HSX HS
          generalize hM : l0 ++ [x] = M at *
          clear hM
          go_enter Try.func5, Try.ntmps5
          go_upto_region 7 with (first
            | (go_at_call 11; (with_reducible refine (cohousinglaw33_head.calls true _ HH.out).mono ?_); rintro e w1 ⟨rfl, hb⟩; replace HB := Aside0.mk (below_step HB.out hb); replace BK := Aside0.mk (blk_below BK.out hb); have z0 : w1.cell? ⟨w.heap.size, 0, none⟩ = some (.int .i64 x.f0) := (blk_cell BK.out 0).trans rfl; have z1 : w1.cell? ⟨w.heap.size, 1, none⟩ = some (.int .i64 x.f1) := (blk_cell BK.out 1).trans rfl; have z2 : w1.cell? ⟨w.heap.size, 2, none⟩ = some (.int .i64 x.f2) := (blk_cell BK.out 2).trans rfl; have z3 : w1.cell? ⟨w.heap.size, 3, none⟩ = some (.int .i64 x.f3) := (blk_cell BK.out 3).trans rfl; have z4 : w1.cell? ⟨w.heap.size, 4, none⟩ = some (.string x.f4) := (blk_cell BK.out 4).trans rfl; have z5 : w1.cell? ⟨w.heap.size, 5, none⟩ = some (.string x.f5) := (blk_cell BK.out 5).trans rfl; clear hb)
            | (go_at_call 25; (with_reducible refine (cohousinglaw33_usable.calls ku A0 c0 l0 day known true _ ?s1 HC0.out HU.out).mono ?_); (case s1 => exact Kd.C_below HR0.out HB.out); rintro e w2 ⟨rfl, hb⟩; replace HB := Aside0.mk (below_step HB.out hb); replace BK := Aside0.mk (blk_below BK.out hb); have z0 : w2.cell? ⟨w.heap.size, 0, none⟩ = some (.int .i64 x.f0) := (blk_cell BK.out 0).trans rfl; have z1 : w2.cell? ⟨w.heap.size, 1, none⟩ = some (.int .i64 x.f1) := (blk_cell BK.out 1).trans rfl; have z2 : w2.cell? ⟨w.heap.size, 2, none⟩ = some (.int .i64 x.f2) := (blk_cell BK.out 2).trans rfl; have z3 : w2.cell? ⟨w.heap.size, 3, none⟩ = some (.int .i64 x.f3) := (blk_cell BK.out 3).trans rfl; have z4 : w2.cell? ⟨w.heap.size, 4, none⟩ = some (.string x.f4) := (blk_cell BK.out 4).trans rfl; have z5 : w2.cell? ⟨w.heap.size, 5, none⟩ = some (.string x.f5) := (blk_cell BK.out 5).trans rfl; clear hb)
            | (go_at_call 12; refine calls_of_args (args' := #[.slice (some ⟨w2.heap.size, 0, none⟩) ([x] : List S24).length 1]) rfl ?_; (with_reducible refine (cohousingref33_Few.calls kf _ 1 [x] true _ ?s1 (by simp) HFew.out).mono ?_); (case s1 => exact k24_one x (by first | exact blk_new _ _ | exact blk_drew (blk_new _ _))); rintro e w3 ⟨rfl, hd⟩; have hb := hd.below; replace HB := Aside0.mk (below_step (below_alloc HB.out _) hb); replace BK := Aside0.mk (blk_below (blk_alloc BK.out _) hb); have z0 : w3.cell? ⟨w.heap.size, 0, none⟩ = some (.int .i64 x.f0) := (blk_cell BK.out 0).trans rfl; have z1 : w3.cell? ⟨w.heap.size, 1, none⟩ = some (.int .i64 x.f1) := (blk_cell BK.out 1).trans rfl; have z2 : w3.cell? ⟨w.heap.size, 2, none⟩ = some (.int .i64 x.f2) := (blk_cell BK.out 2).trans rfl; have z3 : w3.cell? ⟨w.heap.size, 3, none⟩ = some (.int .i64 x.f3) := (blk_cell BK.out 3).trans rfl; have z4 : w3.cell? ⟨w.heap.size, 4, none⟩ = some (.string x.f4) := (blk_cell BK.out 4).trans rfl; have z5 : w3.cell? ⟨w.heap.size, 5, none⟩ = some (.string x.f5) := (blk_cell BK.out 5).trans rfl; clear hb hd)
            | (go_at_call 26; (with_reducible refine (cohousingref33_Account.calls ka acc true _ HA.out).mono ?_); rintro e w4 ⟨rfl, hd⟩; have hb := hd.below; replace HB := Aside0.mk (below_step HB.out hb); replace BK := Aside0.mk (blk_below BK.out hb); have z0 : w4.cell? ⟨w.heap.size, 0, none⟩ = some (.int .i64 x.f0) := (blk_cell BK.out 0).trans rfl; have z1 : w4.cell? ⟨w.heap.size, 1, none⟩ = some (.int .i64 x.f1) := (blk_cell BK.out 1).trans rfl; have z2 : w4.cell? ⟨w.heap.size, 2, none⟩ = some (.int .i64 x.f2) := (blk_cell BK.out 2).trans rfl; have z3 : w4.cell? ⟨w.heap.size, 3, none⟩ = some (.int .i64 x.f3) := (blk_cell BK.out 3).trans rfl; have z4 : w4.cell? ⟨w.heap.size, 4, none⟩ = some (.string x.f4) := (blk_cell BK.out 4).trans rfl; have z5 : w4.cell? ⟨w.heap.size, 5, none⟩ = some (.string x.f5) := (blk_cell BK.out 5).trans rfl; clear hb hd)
            | (go_at_call 13; (with_reducible refine (ledger_Post.calls A0 c0 l0 x.f0 x.f1 x.f2 x.f3 x.f4 x.f5 _ 0 _ ?s1 HC0.out HPF.out).mono ?_); (case s1 => exact Kd.C_below HR0.out HB.out); rintro e w5 ⟨v1, rfl, hR, hb⟩; obtain ⟨A1, c1, rfl, hl1, hc1⟩ := Kd.R_reads hR; have HR1 := Aside0.mk hc1; have HL1 := Aside0.mk hl1; replace HB := Aside0.mk (below_step HB.out hb); replace BK := Aside0.mk (blk_below BK.out hb); have z0 : w5.cell? ⟨w.heap.size, 0, none⟩ = some (.int .i64 x.f0) := (blk_cell BK.out 0).trans rfl; have z1 : w5.cell? ⟨w.heap.size, 1, none⟩ = some (.int .i64 x.f1) := (blk_cell BK.out 1).trans rfl; have z2 : w5.cell? ⟨w.heap.size, 2, none⟩ = some (.int .i64 x.f2) := (blk_cell BK.out 2).trans rfl; have z3 : w5.cell? ⟨w.heap.size, 3, none⟩ = some (.int .i64 x.f3) := (blk_cell BK.out 3).trans rfl; have z4 : w5.cell? ⟨w.heap.size, 4, none⟩ = some (.string x.f4) := (blk_cell BK.out 4).trans rfl; have z5 : w5.cell? ⟨w.heap.size, 5, none⟩ = some (.string x.f5) := (blk_cell BK.out 5).trans rfl; clear hR hl1 hc1 hb))
          have hhM : l0.length < M.length := by have := HML.out; omega
          have hhI : (l0.length : Int) < (M.length : Int) := by omega
          have hhJ : (l0.length : Int) ≤ (M.length : Int) := by omega
          have hhK : (0 : Int) ≤ (l0.length : Int) := by omega
          have hcutt := cut_to (P := Try.prog) 22 24 .i64 Try.underlying22 (info_parts info24).choose_spec.1 A1 M.length c1 (l0.length : Int) (by omega) (by omega) HL1.out
          rw [Int.toNat_natCast] at hcutt
          have HCT : Aside0 (Kd.C k24 w5 A1 l0.length l0) := ⟨by
            have h := Kd.C_take (m := l0.length) HR1.out (by omega)
            rw [HMT.out] at h
            exact h⟩
          obtain ⟨ad, e, x0, x1, x2, x3, x4, x5⟩ := at_T24 HR1.out (l0.length : Int) (by omega) (by omega)
          cases e
          rw [HMX.out] at x0 x1 x2 x3 x4 x5
          simp only [Int.toNat_natCast] at x0 x1 x2 x3 x4 x5
          have heq := fun d W => eqA24 d W x.f0 x.f0 x.f1 x.f1 x.f2 x.f2 x.f3 x.f3 x.f4 x.f4 x.f5 x.f5
          simp only [beq_self_eq_true, Bool.and_self] at heq
          have hw1 : IntKind.i64.wrap ((l0.length : Int) + 1) = (M.length : Int) := by rw [HML.out]; exact Go.IntWalk.i64_in _ (by omega)
          go_region_held3 (fun w' => w'.cell? ⟨w.heap.size, 0, none⟩ = some (.int .i64 x.f0) ∧ w'.cell? ⟨w.heap.size, 1, none⟩ = some (.int .i64 x.f1) ∧ w'.cell? ⟨w.heap.size, 2, none⟩ = some (.int .i64 x.f2) ∧ w'.cell? ⟨w.heap.size, 3, none⟩ = some (.int .i64 x.f3) ∧ w'.cell? ⟨w.heap.size, 4, none⟩ = some (.string x.f4) ∧ w'.cell? ⟨w.heap.size, 5, none⟩ = some (.string x.f5) ∧ w'.cell? (ad.add (l0.length * 6)) = some (.int .i64 x.f0) ∧ w'.cell? ⟨(ad.add (l0.length * 6)).block, (ad.add (l0.length * 6)).off + 1, none⟩ = some (.int .i64 x.f1) ∧ w'.cell? ⟨(ad.add (l0.length * 6)).block, (ad.add (l0.length * 6)).off + 2, none⟩ = some (.int .i64 x.f2) ∧ w'.cell? ⟨(ad.add (l0.length * 6)).block, (ad.add (l0.length * 6)).off + 3, none⟩ = some (.int .i64 x.f3) ∧ w'.cell? ⟨(ad.add (l0.length * 6)).block, (ad.add (l0.length * 6)).off + 4, none⟩ = some (.string x.f4) ∧ w'.cell? ⟨(ad.add (l0.length * 6)).block, (ad.add (l0.length * 6)).off + 5, none⟩ = some (.string x.f5)) (first | go_keep | exact ⟨u0, u1, u2, u3, u4, u5, v0, v1, v2, v3, v4, v5⟩ | exact ⟨z0, z1, z2, z3, z4, z5, x0, x1, x2, x3, x4, x5⟩)
            ((first
              | (go_at_call 15; (with_reducible refine (ledger_Valid.calls (some ad) c1 M true _ ?s1 HL1.out HVF.out).mono ?_); (case s1 => first | exact Kd.C_drew HR1.out | exact Kd.C_drewN (Kd.C_drew HR1.out) _); rintro e w6 ⟨rfl, hb⟩; have HB6 := Aside0.mk hb; have u0 := (hb.cell (World.block_lt_of_cell? w5 _ z0)).trans z0; have u1 := (hb.cell (World.block_lt_of_cell? w5 _ z1)).trans z1; have u2 := (hb.cell (World.block_lt_of_cell? w5 _ z2)).trans z2; have u3 := (hb.cell (World.block_lt_of_cell? w5 _ z3)).trans z3; have u4 := (hb.cell (World.block_lt_of_cell? w5 _ z4)).trans z4; have u5 := (hb.cell (World.block_lt_of_cell? w5 _ z5)).trans z5; have v0 := (hb.cell (World.block_lt_of_cell? w5 _ x0)).trans x0; have v1 := (hb.cell (World.block_lt_of_cell? w5 _ x1)).trans x1; have v2 := (hb.cell (World.block_lt_of_cell? w5 _ x2)).trans x2; have v3 := (hb.cell (World.block_lt_of_cell? w5 _ x3)).trans x3; have v4 := (hb.cell (World.block_lt_of_cell? w5 _ x4)).trans x4; have v5 := (hb.cell (World.block_lt_of_cell? w5 _ x5)).trans x5)
              | (go_at_call 17; (with_reducible refine (cohousingref33_Same.calls ks (some ad) c1 l0 A0 c0 l0 true _ ?s1 (by have := HL1.out; omega) ?s3 HC0.out HSame.out).mono ?_); (case s1 => exact Kd.C_drew HCT.out); (case s3 => exact Kd.C_drew (Kd.C_below HR0.out HB.out)); rintro e w' ⟨rfl, ⟨nd, rfl⟩⟩)))
          have HK : Aside0 (Below w5.heap.size w5 w6) := ⟨below_step (show Drawn0 w5 (w5.drewN (1 + nd)) from ⟨_, rfl⟩).below HB6.out⟩
          have hq4 : (acc.toList == x.f4.toList) = decide (acc = x.f4) := eq_bytes _ _
          have hq5 : (acc.toList == x.f5.toList) = decide (acc = x.f5) := eq_bytes _ _
          clear HB6 hw1 heq hcutt hb z0 z1 z2 z3 z4 z5 x0 x1 x2 x3 x4 x5 HMT HMX HVF HSame HCT HPF HFew HU HA HH BK
          go_upto_region 10 with (fail)
          go_cut [95] (fun v95 wc => v95 = .bool (decide (x.f1 ≤ day) && decide (x.f2 ≤ known) && decide (acc = x.f4)) ∧ w6 = wc)
          case first =>
            by_cases p1 : x.f1 ≤ day
            · have q1 : decide (x.f1 ≤ day) = true := decide_eq_true p1
              by_cases p2 : x.f2 ≤ known
              · have q2 : decide (x.f2 ≤ known) = true := decide_eq_true p2
                go_wp2
                go_meet
                case rel => exact ⟨by rw [q1, q2, ← hq4]; first | rfl | simp, rfl⟩
              · have q2 : decide (x.f2 ≤ known) = false := decide_eq_false p2
                go_wp2
                go_meet
                case rel => exact ⟨by rw [q1, q2]; rfl, rfl⟩
            · have q1 : decide (x.f1 ≤ day) = false := decide_eq_false p1
              go_wp2
              go_meet
              case rel => exact ⟨by rw [q1]; rfl, rfl⟩
          case rest =>
            obtain ⟨rfl, rfl⟩ := hcut
            by_cases h4 : (decide (x.f1 ≤ day) && decide (x.f2 ≤ known) && decide (acc = x.f4)) = true
            · rw [h4]
              go_upto_region 12 with (fail)
              go_cut [113] (fun v113 wd => v113 = .bool (decide (x.f1 ≤ day) && decide (x.f2 ≤ known) && decide (acc = x.f5)) ∧ w6 = wd)
              case first =>
                by_cases p1 : x.f1 ≤ day
                · have q1 : decide (x.f1 ≤ day) = true := decide_eq_true p1
                  by_cases p2 : x.f2 ≤ known
                  · have q2 : decide (x.f2 ≤ known) = true := decide_eq_true p2
                    go_wp2
                    go_meet
                    case rel => exact ⟨by rw [q1, q2, ← hq5]; first | rfl | simp, rfl⟩
                  · have q2 : decide (x.f2 ≤ known) = false := decide_eq_false p2
                    go_wp2
                    go_meet
                    case rel => exact ⟨by rw [q1, q2]; rfl, rfl⟩
                · have q1 : decide (x.f1 ≤ day) = false := decide_eq_false p1
                  go_wp2
                  go_meet
                  case rel => exact ⟨by rw [q1]; rfl, rfl⟩
              case rest =>
                obtain ⟨rfl, rfl⟩ := hcut
                have h5 : (decide (x.f1 ≤ day) && decide (x.f2 ≤ known) && decide (acc = x.f5)) = false := by
                  simp only [Bool.and_eq_true, decide_eq_true_eq] at h4
                  rw [decide_eq_false (fun e => HXN.out (h4.2.symm.trans e)), Bool.and_false]
                have hfb := HFB0.out
                rw [if_pos (show (decide (x.f1 ≤ day) && decide (x.f2 ≤ known)) = true from by rw [Bool.and_eq_true] at h4; exact h4.1), if_pos (show acc = x.f4 from by simp only [Bool.and_eq_true, decide_eq_true_eq] at h4; exact h4.2)] at hfb
                rw [h5]
                clear h4 h5 hq4 hq5 HFB0
                by_cases ra : (decide (-1000000000 ≤ a) && decide (a ≤ 1000000000)) = true
                · have HFA : Aside0 (ledger_Balance.f l0 acc day known = some (a, 0)) := ⟨by rw [HFA0.out, if_pos ra]⟩
                  simp only [Bool.and_eq_true, decide_eq_true_eq] at ra
                  by_cases h1 : 1000000000 < a + x.f3
                  · have HFB : Aside0 (ledger_Balance.f M acc day known = some (0, 3)) := ⟨by rw [hfb, if_neg (by simp only [Bool.and_eq_true, decide_eq_true_eq]; omega)]⟩
                    have e1 : decide (1000000000 < a + x.f3) = true := decide_eq_true h1
                    clear hfb HFA0
                    go_wp2_with (first
                      | (go_at_call 18; (with_reducible refine (ledger_Balance.calls A0 c0 l0 acc day known _ _ _ ?s1 HC0.out HFA.out).mono ?_); (case s1 => exact Kd.C_below (Kd.C_below HR0.out HB.out) HK.out); rintro e w8 ⟨rfl, hb⟩; replace HK := Aside0.mk (below_step HK.out hb); clear hb)
                      | (go_at_call 18; (with_reducible refine (ledger_Balance.calls (some ad) c1 M acc day known _ _ _ ?s1 HL1.out HFB.out).mono ?_); (case s1 => exact Kd.C_below HR1.out HK.out); rintro e w9 ⟨rfl, hb⟩; replace HK := Aside0.mk (below_step HK.out hb); clear hb))
                    go_ret
                    exact ⟨rfl, below_step HB.out HK.out⟩
                  · by_cases h2 : a + x.f3 < -1000000000
                    · exact absurd h2 (by omega)
                    · have HFB : Aside0 (ledger_Balance.f M acc day known = some (a + x.f3, 0)) := ⟨by rw [hfb, if_pos (by simp only [Bool.and_eq_true, decide_eq_true_eq]; omega)]⟩
                      clear hfb HFA0
                      go_wp2_with (first
                        | (go_at_call 18; (with_reducible refine (ledger_Balance.calls A0 c0 l0 acc day known _ _ _ ?s1 HC0.out HFA.out).mono ?_); (case s1 => exact Kd.C_below (Kd.C_below HR0.out HB.out) HK.out); rintro e w8 ⟨rfl, hb⟩; replace HK := Aside0.mk (below_step HK.out hb); clear hb)
                        | (go_at_call 18; (with_reducible refine (ledger_Balance.calls (some ad) c1 M acc day known _ _ _ ?s1 HL1.out HFB.out).mono ?_); (case s1 => exact Kd.C_below HR1.out HK.out); rintro e w9 ⟨rfl, hb⟩; replace HK := Aside0.mk (below_step HK.out hb); clear hb))
                      go_ret
                      exact ⟨rfl, below_step HB.out HK.out⟩
                · have HFA : Aside0 (ledger_Balance.f l0 acc day known = some (0, 3)) := ⟨by rw [HFA0.out, if_neg ra]⟩
                  generalize hy : (if (decide (-1000000000 ≤ a + x.f3) && decide (a + x.f3 ≤ 1000000000)) = true then (a + x.f3, (0 : Int)) else (0, 3)) = y at hfb
                  obtain ⟨y1, y2⟩ := y
                  have HFB := Aside0.mk hfb
                  clear hfb ra hy HFA0
                  go_wp2_with (first
                    | (go_at_call 18; (with_reducible refine (ledger_Balance.calls A0 c0 l0 acc day known _ _ _ ?s1 HC0.out HFA.out).mono ?_); (case s1 => exact Kd.C_below (Kd.C_below HR0.out HB.out) HK.out); rintro e w8 ⟨rfl, hb⟩; replace HK := Aside0.mk (below_step HK.out hb); clear hb)
                    | (go_at_call 18; (with_reducible refine (ledger_Balance.calls (some ad) c1 M acc day known _ _ _ ?s1 HL1.out HFB.out).mono ?_); (case s1 => exact Kd.C_below HR1.out HK.out); rintro e w9 ⟨rfl, hb⟩; replace HK := Aside0.mk (below_step HK.out hb); clear hb))
                  go_ret
                  exact ⟨rfl, below_step HB.out HK.out⟩
            · rw [Bool.not_eq_true] at h4
              rw [h4]
              rw [← Bool.not_eq_true] at h4
              go_upto_region 12 with (fail)
              go_cut [113] (fun v113 wd => v113 = .bool (decide (x.f1 ≤ day) && decide (x.f2 ≤ known) && decide (acc = x.f5)) ∧ w6 = wd)
              case first =>
                by_cases p1 : x.f1 ≤ day
                · have q1 : decide (x.f1 ≤ day) = true := decide_eq_true p1
                  by_cases p2 : x.f2 ≤ known
                  · have q2 : decide (x.f2 ≤ known) = true := decide_eq_true p2
                    go_wp2
                    go_meet
                    case rel => exact ⟨by rw [q1, q2, ← hq5]; first | rfl | simp, rfl⟩
                  · have q2 : decide (x.f2 ≤ known) = false := decide_eq_false p2
                    go_wp2
                    go_meet
                    case rel => exact ⟨by rw [q1, q2]; rfl, rfl⟩
                · have q1 : decide (x.f1 ≤ day) = false := decide_eq_false p1
                  go_wp2
                  go_meet
                  case rel => exact ⟨by rw [q1]; rfl, rfl⟩
              case rest =>
                obtain ⟨rfl, rfl⟩ := hcut
                by_cases h5 : (decide (x.f1 ≤ day) && decide (x.f2 ≤ known) && decide (acc = x.f5)) = true
                · have hfb := HFB0.out
                  rw [if_pos (show (decide (x.f1 ≤ day) && decide (x.f2 ≤ known)) = true from by rw [Bool.and_eq_true] at h5; exact h5.1), if_neg (show ¬ acc = x.f4 from fun e => by simp only [Bool.and_eq_true, decide_eq_true_eq] at h5; exact HXN.out (e.symm.trans h5.2)),
                    if_pos (show acc = x.f5 from by simp only [Bool.and_eq_true, decide_eq_true_eq] at h5; exact h5.2)] at hfb
                  rw [h5]
                  clear h4 h5 hq4 hq5 HFB0
                  by_cases ra : (decide (-1000000000 ≤ a) && decide (a ≤ 1000000000)) = true
                  · have HFA : Aside0 (ledger_Balance.f l0 acc day known = some (a, 0)) := ⟨by rw [HFA0.out, if_pos ra]⟩
                    simp only [Bool.and_eq_true, decide_eq_true_eq] at ra
                    by_cases h1 : 1000000000 < a + -x.f3
                    · exact absurd h1 (by omega)
                    · by_cases h2 : a + -x.f3 < -1000000000
                      · have HFB : Aside0 (ledger_Balance.f M acc day known = some (0, 3)) := ⟨by rw [hfb, if_neg (by simp only [Bool.and_eq_true, decide_eq_true_eq]; omega)]⟩
                        have e1 : decide (1000000000 < a + -x.f3) = false := decide_eq_false h1
                        have e2 : decide (a + -x.f3 < -1000000000) = true := decide_eq_true h2
                        clear hfb HFA0
                        go_wp2_with (first
                          | (go_at_call 18; (with_reducible refine (ledger_Balance.calls A0 c0 l0 acc day known _ _ _ ?s1 HC0.out HFA.out).mono ?_); (case s1 => exact Kd.C_below (Kd.C_below HR0.out HB.out) HK.out); rintro e w8 ⟨rfl, hb⟩; replace HK := Aside0.mk (below_step HK.out hb); clear hb)
                          | (go_at_call 18; (with_reducible refine (ledger_Balance.calls (some ad) c1 M acc day known _ _ _ ?s1 HL1.out HFB.out).mono ?_); (case s1 => exact Kd.C_below HR1.out HK.out); rintro e w9 ⟨rfl, hb⟩; replace HK := Aside0.mk (below_step HK.out hb); clear hb))
                        go_ret
                        exact ⟨rfl, below_step HB.out HK.out⟩
                      · have HFB : Aside0 (ledger_Balance.f M acc day known = some (a + -x.f3, 0)) := ⟨by rw [hfb, if_pos (by simp only [Bool.and_eq_true, decide_eq_true_eq]; omega)]⟩
                        clear hfb HFA0
                        go_wp2_with (first
                          | (go_at_call 18; (with_reducible refine (ledger_Balance.calls A0 c0 l0 acc day known _ _ _ ?s1 HC0.out HFA.out).mono ?_); (case s1 => exact Kd.C_below (Kd.C_below HR0.out HB.out) HK.out); rintro e w8 ⟨rfl, hb⟩; replace HK := Aside0.mk (below_step HK.out hb); clear hb)
                          | (go_at_call 18; (with_reducible refine (ledger_Balance.calls (some ad) c1 M acc day known _ _ _ ?s1 HL1.out HFB.out).mono ?_); (case s1 => exact Kd.C_below HR1.out HK.out); rintro e w9 ⟨rfl, hb⟩; replace HK := Aside0.mk (below_step HK.out hb); clear hb))
                        go_ret
                        exact ⟨rfl, below_step HB.out HK.out⟩
                  · have HFA : Aside0 (ledger_Balance.f l0 acc day known = some (0, 3)) := ⟨by rw [HFA0.out, if_neg ra]⟩
                    generalize hy : (if (decide (-1000000000 ≤ a + -x.f3) && decide (a + -x.f3 ≤ 1000000000)) = true then (a + -x.f3, (0 : Int)) else (0, 3)) = y at hfb
                    obtain ⟨y1, y2⟩ := y
                    have HFB := Aside0.mk hfb
                    clear hfb ra hy HFA0
                    go_wp2_with (first
                      | (go_at_call 18; (with_reducible refine (ledger_Balance.calls A0 c0 l0 acc day known _ _ _ ?s1 HC0.out HFA.out).mono ?_); (case s1 => exact Kd.C_below (Kd.C_below HR0.out HB.out) HK.out); rintro e w8 ⟨rfl, hb⟩; replace HK := Aside0.mk (below_step HK.out hb); clear hb)
                      | (go_at_call 18; (with_reducible refine (ledger_Balance.calls (some ad) c1 M acc day known _ _ _ ?s1 HL1.out HFB.out).mono ?_); (case s1 => exact Kd.C_below HR1.out HK.out); rintro e w9 ⟨rfl, hb⟩; replace HK := Aside0.mk (below_step HK.out hb); clear hb))
                    go_ret
                    exact ⟨rfl, below_step HB.out HK.out⟩
                · have hfb := HFB0.out
                  have e0 : (if (decide (x.f1 ≤ day) && decide (x.f2 ≤ known)) = true then if acc = x.f4 then x.f3 else if acc = x.f5 then -x.f3 else 0 else 0) = 0 := by
                    by_cases ho : (decide (x.f1 ≤ day) && decide (x.f2 ≤ known)) = true
                    · rw [if_pos ho, if_neg (fun e => h4 (by rw [ho, decide_eq_true e]; rfl)), if_neg (fun e => h5 (by rw [ho, decide_eq_true e]; rfl))]
                    · rw [if_neg ho]
                  rw [e0] at hfb
                  rw [Bool.not_eq_true] at h5
                  rw [h5]
                  clear h4 h5 hq4 hq5 HFB0 e0
                  by_cases ra : (decide (-1000000000 ≤ a) && decide (a ≤ 1000000000)) = true
                  · have HFA : Aside0 (ledger_Balance.f l0 acc day known = some (a, 0)) := ⟨by rw [HFA0.out, if_pos ra]⟩
                    have HFB : Aside0 (ledger_Balance.f M acc day known = some (a, 0)) := ⟨by rw [hfb, Int.add_zero, if_pos ra]⟩
                    simp only [Bool.and_eq_true, decide_eq_true_eq] at ra
                    clear hfb HFA0
                    go_wp2_with (first
                      | (go_at_call 18; (with_reducible refine (ledger_Balance.calls A0 c0 l0 acc day known _ _ _ ?s1 HC0.out HFA.out).mono ?_); (case s1 => exact Kd.C_below (Kd.C_below HR0.out HB.out) HK.out); rintro e w8 ⟨rfl, hb⟩; replace HK := Aside0.mk (below_step HK.out hb); clear hb)
                      | (go_at_call 18; (with_reducible refine (ledger_Balance.calls (some ad) c1 M acc day known _ _ _ ?s1 HL1.out HFB.out).mono ?_); (case s1 => exact Kd.C_below HR1.out HK.out); rintro e w9 ⟨rfl, hb⟩; replace HK := Aside0.mk (below_step HK.out hb); clear hb))
                    go_ret
                    exact ⟨rfl, below_step HB.out HK.out⟩
                  · have HFA : Aside0 (ledger_Balance.f l0 acc day known = some (0, 3)) := ⟨by rw [HFA0.out, if_neg ra]⟩
                    have HFB : Aside0 (ledger_Balance.f M acc day known = some (0, 3)) := ⟨by rw [hfb, Int.add_zero, if_neg ra]⟩
                    clear hfb HFA0 ra
                    go_wp2_with (first
                      | (go_at_call 18; (with_reducible refine (ledger_Balance.calls A0 c0 l0 acc day known _ _ _ ?s1 HC0.out HFA.out).mono ?_); (case s1 => exact Kd.C_below (Kd.C_below HR0.out HB.out) HK.out); rintro e w8 ⟨rfl, hb⟩; replace HK := Aside0.mk (below_step HK.out hb); clear hb)
                      | (go_at_call 18; (with_reducible refine (ledger_Balance.calls (some ad) c1 M acc day known _ _ _ ?s1 HL1.out HFB.out).mono ?_); (case s1 => exact Kd.C_below HR1.out HK.out); rintro e w9 ⟨rfl, hb⟩; replace HK := Aside0.mk (below_step HK.out hb); clear hb))
                    go_ret
                    exact ⟨rfl, below_step HB.out HK.out⟩
      · rw [Bool.not_eq_true] at hb3
        rw [hb3] at HA
        clear hb1 hb2 hb3 hPf
        go_enter Try.func5, Try.ntmps5
        go_wp2_with (first
          | (go_at_call 11; (with_reducible refine (cohousinglaw33_head.calls true _ HH.out).mono ?_); rintro e w1 ⟨rfl, hb⟩; replace HB := Aside0.mk (below_step HB.out hb); replace BK := Aside0.mk (blk_below BK.out hb); have z0 : w1.cell? ⟨w.heap.size, 0, none⟩ = some (.int .i64 x.f0) := (blk_cell BK.out 0).trans rfl; have z1 : w1.cell? ⟨w.heap.size, 1, none⟩ = some (.int .i64 x.f1) := (blk_cell BK.out 1).trans rfl; have z2 : w1.cell? ⟨w.heap.size, 2, none⟩ = some (.int .i64 x.f2) := (blk_cell BK.out 2).trans rfl; have z3 : w1.cell? ⟨w.heap.size, 3, none⟩ = some (.int .i64 x.f3) := (blk_cell BK.out 3).trans rfl; have z4 : w1.cell? ⟨w.heap.size, 4, none⟩ = some (.string x.f4) := (blk_cell BK.out 4).trans rfl; have z5 : w1.cell? ⟨w.heap.size, 5, none⟩ = some (.string x.f5) := (blk_cell BK.out 5).trans rfl; clear hb)
          | (go_at_call 25; (with_reducible refine (cohousinglaw33_usable.calls ku A0 c0 l0 day known true _ ?s1 HC0.out HU.out).mono ?_); (case s1 => exact Kd.C_below HR0.out HB.out); rintro e w2 ⟨rfl, hb⟩; replace HB := Aside0.mk (below_step HB.out hb); replace BK := Aside0.mk (blk_below BK.out hb); have z0 : w2.cell? ⟨w.heap.size, 0, none⟩ = some (.int .i64 x.f0) := (blk_cell BK.out 0).trans rfl; have z1 : w2.cell? ⟨w.heap.size, 1, none⟩ = some (.int .i64 x.f1) := (blk_cell BK.out 1).trans rfl; have z2 : w2.cell? ⟨w.heap.size, 2, none⟩ = some (.int .i64 x.f2) := (blk_cell BK.out 2).trans rfl; have z3 : w2.cell? ⟨w.heap.size, 3, none⟩ = some (.int .i64 x.f3) := (blk_cell BK.out 3).trans rfl; have z4 : w2.cell? ⟨w.heap.size, 4, none⟩ = some (.string x.f4) := (blk_cell BK.out 4).trans rfl; have z5 : w2.cell? ⟨w.heap.size, 5, none⟩ = some (.string x.f5) := (blk_cell BK.out 5).trans rfl; clear hb)
          | (go_at_call 12; refine calls_of_args (args' := #[.slice (some ⟨w2.heap.size, 0, none⟩) ([x] : List S24).length 1]) rfl ?_; (with_reducible refine (cohousingref33_Few.calls kf _ 1 [x] true _ ?s1 (by simp) HFew.out).mono ?_); (case s1 => exact k24_one x (by first | exact blk_new _ _ | exact blk_drew (blk_new _ _))); rintro e w3 ⟨rfl, hd⟩; have hb := hd.below; replace HB := Aside0.mk (below_step (below_alloc HB.out _) hb); replace BK := Aside0.mk (blk_below (blk_alloc BK.out _) hb); have z0 : w3.cell? ⟨w.heap.size, 0, none⟩ = some (.int .i64 x.f0) := (blk_cell BK.out 0).trans rfl; have z1 : w3.cell? ⟨w.heap.size, 1, none⟩ = some (.int .i64 x.f1) := (blk_cell BK.out 1).trans rfl; have z2 : w3.cell? ⟨w.heap.size, 2, none⟩ = some (.int .i64 x.f2) := (blk_cell BK.out 2).trans rfl; have z3 : w3.cell? ⟨w.heap.size, 3, none⟩ = some (.int .i64 x.f3) := (blk_cell BK.out 3).trans rfl; have z4 : w3.cell? ⟨w.heap.size, 4, none⟩ = some (.string x.f4) := (blk_cell BK.out 4).trans rfl; have z5 : w3.cell? ⟨w.heap.size, 5, none⟩ = some (.string x.f5) := (blk_cell BK.out 5).trans rfl; clear hb hd)
          | (go_at_call 26; (with_reducible refine (cohousingref33_Account.calls ka acc false _ HA.out).mono ?_); rintro e w4 ⟨rfl, hd⟩; have hb := hd.below; replace HB := Aside0.mk (below_step HB.out hb); replace BK := Aside0.mk (blk_below BK.out hb); have z0 : w4.cell? ⟨w.heap.size, 0, none⟩ = some (.int .i64 x.f0) := (blk_cell BK.out 0).trans rfl; have z1 : w4.cell? ⟨w.heap.size, 1, none⟩ = some (.int .i64 x.f1) := (blk_cell BK.out 1).trans rfl; have z2 : w4.cell? ⟨w.heap.size, 2, none⟩ = some (.int .i64 x.f2) := (blk_cell BK.out 2).trans rfl; have z3 : w4.cell? ⟨w.heap.size, 3, none⟩ = some (.int .i64 x.f3) := (blk_cell BK.out 3).trans rfl; have z4 : w4.cell? ⟨w.heap.size, 4, none⟩ = some (.string x.f4) := (blk_cell BK.out 4).trans rfl; have z5 : w4.cell? ⟨w.heap.size, 5, none⟩ = some (.string x.f5) := (blk_cell BK.out 5).trans rfl; clear hb hd))
        go_ret
        exact ⟨rfl, HB.out⟩
    · rw [Bool.not_eq_true] at hb2
      rw [hb2] at HFew
      clear hb1 hb2 hPf
      go_enter Try.func5, Try.ntmps5
      go_wp2_with (first
        | (go_at_call 11; (with_reducible refine (cohousinglaw33_head.calls true _ HH.out).mono ?_); rintro e w1 ⟨rfl, hb⟩; replace HB := Aside0.mk (below_step HB.out hb); replace BK := Aside0.mk (blk_below BK.out hb); have z0 : w1.cell? ⟨w.heap.size, 0, none⟩ = some (.int .i64 x.f0) := (blk_cell BK.out 0).trans rfl; have z1 : w1.cell? ⟨w.heap.size, 1, none⟩ = some (.int .i64 x.f1) := (blk_cell BK.out 1).trans rfl; have z2 : w1.cell? ⟨w.heap.size, 2, none⟩ = some (.int .i64 x.f2) := (blk_cell BK.out 2).trans rfl; have z3 : w1.cell? ⟨w.heap.size, 3, none⟩ = some (.int .i64 x.f3) := (blk_cell BK.out 3).trans rfl; have z4 : w1.cell? ⟨w.heap.size, 4, none⟩ = some (.string x.f4) := (blk_cell BK.out 4).trans rfl; have z5 : w1.cell? ⟨w.heap.size, 5, none⟩ = some (.string x.f5) := (blk_cell BK.out 5).trans rfl; clear hb)
        | (go_at_call 25; (with_reducible refine (cohousinglaw33_usable.calls ku A0 c0 l0 day known true _ ?s1 HC0.out HU.out).mono ?_); (case s1 => exact Kd.C_below HR0.out HB.out); rintro e w2 ⟨rfl, hb⟩; replace HB := Aside0.mk (below_step HB.out hb); replace BK := Aside0.mk (blk_below BK.out hb); have z0 : w2.cell? ⟨w.heap.size, 0, none⟩ = some (.int .i64 x.f0) := (blk_cell BK.out 0).trans rfl; have z1 : w2.cell? ⟨w.heap.size, 1, none⟩ = some (.int .i64 x.f1) := (blk_cell BK.out 1).trans rfl; have z2 : w2.cell? ⟨w.heap.size, 2, none⟩ = some (.int .i64 x.f2) := (blk_cell BK.out 2).trans rfl; have z3 : w2.cell? ⟨w.heap.size, 3, none⟩ = some (.int .i64 x.f3) := (blk_cell BK.out 3).trans rfl; have z4 : w2.cell? ⟨w.heap.size, 4, none⟩ = some (.string x.f4) := (blk_cell BK.out 4).trans rfl; have z5 : w2.cell? ⟨w.heap.size, 5, none⟩ = some (.string x.f5) := (blk_cell BK.out 5).trans rfl; clear hb)
        | (go_at_call 12; refine calls_of_args (args' := #[.slice (some ⟨w2.heap.size, 0, none⟩) ([x] : List S24).length 1]) rfl ?_; (with_reducible refine (cohousingref33_Few.calls kf _ 1 [x] false _ ?s1 (by simp) HFew.out).mono ?_); (case s1 => exact k24_one x (by first | exact blk_new _ _ | exact blk_drew (blk_new _ _))); rintro e w3 ⟨rfl, hd⟩; have hb := hd.below; replace HB := Aside0.mk (below_step (below_alloc HB.out _) hb); replace BK := Aside0.mk (blk_below (blk_alloc BK.out _) hb); have z0 : w3.cell? ⟨w.heap.size, 0, none⟩ = some (.int .i64 x.f0) := (blk_cell BK.out 0).trans rfl; have z1 : w3.cell? ⟨w.heap.size, 1, none⟩ = some (.int .i64 x.f1) := (blk_cell BK.out 1).trans rfl; have z2 : w3.cell? ⟨w.heap.size, 2, none⟩ = some (.int .i64 x.f2) := (blk_cell BK.out 2).trans rfl; have z3 : w3.cell? ⟨w.heap.size, 3, none⟩ = some (.int .i64 x.f3) := (blk_cell BK.out 3).trans rfl; have z4 : w3.cell? ⟨w.heap.size, 4, none⟩ = some (.string x.f4) := (blk_cell BK.out 4).trans rfl; have z5 : w3.cell? ⟨w.heap.size, 5, none⟩ = some (.string x.f5) := (blk_cell BK.out 5).trans rfl; clear hb hd))
      go_ret
      exact ⟨rfl, HB.out⟩
  · rw [Bool.not_eq_true] at hb1
    rw [hb1] at HU
    clear hb1 hPf
    go_enter Try.func5, Try.ntmps5
    go_wp2_with (first
      | (go_at_call 11; (with_reducible refine (cohousinglaw33_head.calls true _ HH.out).mono ?_); rintro e w1 ⟨rfl, hb⟩; replace HB := Aside0.mk (below_step HB.out hb); replace BK := Aside0.mk (blk_below BK.out hb); have z0 : w1.cell? ⟨w.heap.size, 0, none⟩ = some (.int .i64 x.f0) := (blk_cell BK.out 0).trans rfl; have z1 : w1.cell? ⟨w.heap.size, 1, none⟩ = some (.int .i64 x.f1) := (blk_cell BK.out 1).trans rfl; have z2 : w1.cell? ⟨w.heap.size, 2, none⟩ = some (.int .i64 x.f2) := (blk_cell BK.out 2).trans rfl; have z3 : w1.cell? ⟨w.heap.size, 3, none⟩ = some (.int .i64 x.f3) := (blk_cell BK.out 3).trans rfl; have z4 : w1.cell? ⟨w.heap.size, 4, none⟩ = some (.string x.f4) := (blk_cell BK.out 4).trans rfl; have z5 : w1.cell? ⟨w.heap.size, 5, none⟩ = some (.string x.f5) := (blk_cell BK.out 5).trans rfl; clear hb)
      | (go_at_call 25; (with_reducible refine (cohousinglaw33_usable.calls ku A0 c0 l0 day known false _ ?s1 HC0.out HU.out).mono ?_); (case s1 => exact Kd.C_below HR0.out HB.out); rintro e w2 ⟨rfl, hb⟩; replace HB := Aside0.mk (below_step HB.out hb); replace BK := Aside0.mk (blk_below BK.out hb); have z0 : w2.cell? ⟨w.heap.size, 0, none⟩ = some (.int .i64 x.f0) := (blk_cell BK.out 0).trans rfl; have z1 : w2.cell? ⟨w.heap.size, 1, none⟩ = some (.int .i64 x.f1) := (blk_cell BK.out 1).trans rfl; have z2 : w2.cell? ⟨w.heap.size, 2, none⟩ = some (.int .i64 x.f2) := (blk_cell BK.out 2).trans rfl; have z3 : w2.cell? ⟨w.heap.size, 3, none⟩ = some (.int .i64 x.f3) := (blk_cell BK.out 3).trans rfl; have z4 : w2.cell? ⟨w.heap.size, 4, none⟩ = some (.string x.f4) := (blk_cell BK.out 4).trans rfl; have z5 : w2.cell? ⟨w.heap.size, 5, none⟩ = some (.string x.f5) := (blk_cell BK.out 5).trans rfl; clear hb))
    go_ret
    exact ⟨rfl, HB.out⟩
end Go.Proofs.Ytnheelncgpgkiaa.P
