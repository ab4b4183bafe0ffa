/- The contract of lottery.Draw. -/
import Derived.Test.YtfkeelccnomjkaaDoorGDrawSpec
import Derived.Test.YtfkeelccnomjkaaDoorGSort
import Derived.Test.YtfkeelccnomjkaaDoorMapRange
import Derived.Deep.QuietTactic
import Derived.BigQuiet
import Derived.Deep.RegionHeld3
namespace Go.Proofs.YtfkeelccnomjkaaDoor.P
open Go.RowKit Go.Proofs.YtfkeelccnomjkaaDoorW.PrintWords Go.Proofs.YtfkeelccnomjkaaDoorW.PrintLast Go.Proofs.YtfkeelccnomjkaaDoorW.PrintMore Go.Proofs.YtfkeelccnomjkaaDoor.M
open Go.Maps (Keyed int_keyed keyOf_int_mk)
open Go.MapKept Go.ChangeMaps
set_option linter.unusedVariables false
set_option linter.unusedSimpArgs false
def enc23 (x : S23) : Value := .agg #[.int .i64 x.f0, .int .i64 x.f1, .int .i64 x.f2]
theorem zero23 (W : World) : (zeroValue 23).run Tryd.prog W = .ok (enc23 z23) W := by kernel_rfl
theorem byF_nil : (fun _ => none : Value → Option Value) = intF enc23 (byF []) := by
  rw [intF_none enc23]; congr 1
theorem whosL_snoc {op : List S23} {i : Nat} (h : i < op.length) : whosL (op.take (i + 1)) = whosL (op.take i) ++ [(rd_T23 op (i : Int)).f0] := by
  rw [rd23_get h]; unfold whosL
  rw [List.take_succ_eq_append_getElem h, List.map_append]; rfl
theorem byF_none {op : List S23} {w : Int} : byF op w = none ↔ w ∉ whosL op := by
  unfold byF whosL
  rw [List.find?_eq_none, List.mem_map]
  constructor
  · rintro h ⟨s, hs, rfl⟩
    exact h s hs (by simp)
  · intro h s hs h2
    exact h ⟨s, hs, by simpa using h2⟩
theorem byF_snoc {op : List S23} {i : Nat} (h : i < op.length) (hn : (rd_T23 op (i : Int)).f0 ∉ whosL (op.take i)) : (fun j => if j = (rd_T23 op (i : Int)).f0 then some (rd_T23 op (i : Int)) else byF (op.take i) j) = byF (op.take (i + 1)) := by
  funext j
  rw [List.take_succ_eq_append_getElem h, ← rd23_get h]
  unfold byF
  rw [List.find?_append]
  by_cases hj : j = (rd_T23 op (i : Int)).f0
  · subst hj
    rw [if_pos rfl]
    have : (op.take i).find? (fun s => decide (s.f0 = (rd_T23 op (i : Int)).f0)) = none := byF_none.2 hn
    rw [this]
    simp
  · rw [if_neg hj]
    have : ([rd_T23 op (i : Int)].find? fun s => decide (s.f0 = j)) = none := by
      rw [List.find?_eq_none]; intro s hs; rw [List.mem_singleton] at hs; subst hs
      simp only [decide_eq_true_eq]; exact fun e => hj e.symm
    rw [this]; simp
theorem secrets_bad {op : List S23} {n i : Nat} (h : i < op.length) (hb : okSec n (rd_T23 op (i : Int)) = false) : secretsB op n = false := by
  unfold secretsB
  have : op.all (okSec n) = false := by rw [List.all_eq_false]; exact ⟨_, rd23_mem h, by rw [hb]; decide⟩
  rw [this]; rfl
theorem secrets_twice {op : List S23} {n i : Nat} (h : i < op.length) (hb : (rd_T23 op (i : Int)).f0 ∈ whosL (op.take i)) : secretsB op n = false := by
  unfold secretsB
  rw [decide_eq_false, Bool.and_false]
  intro hn
  have h2 : (whosL (op.take (i + 1))).Nodup := by
    unfold whosL at hn ⊢
    exact (List.Sublist.map _ (List.take_sublist (i + 1) op)).nodup hn
  rw [whosL_snoc h, List.nodup_append] at h2
  exact h2.2.2 _ hb _ (List.mem_singleton.2 rfl) rfl
theorem blk_p2d (w : World) (o o' : Obj) (n : Nat) (o'' : Obj) : ((((w.alloc o).alloc o').drewN n).alloc o'').heap[w.heap.size + 1 + 1]? = some o'' := by
  have h := blk_new (((w.alloc o).alloc o').drewN n) o''
  simpa using h
def DrawPost (w : World) (r : Int × List Int × Int) (e : Ending) (w' : World) : Prop :=
  ∃ v : Value, e = .returned (.tuple #[.int .i64 r.1, v, .int .i64 r.2.2]) ∧ Kd.R (Kd.int .i64) 3 w' w.heap.size (fun _ => True) v r.2.1 ∧ Below w.heap.size w w'
set_option maxHeartbeats 4000000 in
set_option maxRecDepth 100000 in
theorem draw_no (A0 : Option Addr) (c0 : Nat) (l : List S31) (need : Int) (v2 : Value) (A2 : Option Addr) (n2 c2 : Nat) (hv2 : v2 = .slice A2 n2 c2) (w : World) (hr0 : Kd.C k31 w A0 l.length l) (hc0 : l.length ≤ c0) (hl : l.length ≤ 1000) (hb : (pledgesB l && inB need 1 (l.length : Int)) = false) :
    Calls Tryd.prog 16 #[.slice A0 l.length c0, .int .i64 need, .slice A2 n2 c2] w (DrawPost w (0, [], 1)) := by
  have HR0 := Aside0.mk hr0
  have HC0 := Aside0.mk hc0
  obtain ⟨K, hK⟩ := (pledges_ev hl).rounds
  cases h1 : pledgesB l with
  | false =>
    rw [h1] at hK
    have HK := Aside0.mk hK
    clear hr0 hc0 hK hb h1
    go_enter Tryd.func16, Tryd.ntmps16
    go_wp2_with (go_at_call 38; (with_reducible refine (lottery_pledges.calls K A0 c0 l false _ HR0.out HC0.out HK.out).mono ?_); rintro e w1 ⟨rfl, hd⟩; have HD := Aside0.mk hd; clear hd)
    go_ret3
    exact ⟨_, rfl, Kd.R_nil _ _ _ _ _, HD.out⟩
  | true =>
    rw [h1] at hK
    have HK := Aside0.mk hK
    have HN : Aside0 (inB need 1 (l.length : Int) = false) := ⟨by rw [h1, Bool.true_and] at hb; exact hb⟩
    clear hr0 hc0 hK hb h1
    go_enter Tryd.func16, Tryd.ntmps16
    go_wp2_with (first
      | (go_at_call 38; (with_reducible refine (lottery_pledges.calls K A0 c0 l true _ HR0.out HC0.out HK.out).mono ?_); rintro e w1 ⟨rfl, hd⟩; have HD := Aside0.mk hd; clear hd)
      | (go_at_call 29; (with_reducible refine (between_calls need 1 (l.length : Int) false HN.out _).mono ?_); rintro e w2 ⟨rfl, ⟨nd, rfl⟩⟩))
    go_ret3
    exact ⟨_, rfl, Kd.R_nil _ _ _ _ _, pw_below_drewN HD.out _⟩
theorem take31_snoc {l : List S31} {i : Nat} (h : i < l.length) : l.take (i + 1) = l.take i ++ [rd_T31 l (i : Int)] := by
  rw [rd31_get h, List.take_succ_eq_append_getElem h]
theorem seedF_snoc {l : List S31} {i : Nat} (h : i < l.length) (need : Nat) : seedF (l.take (i + 1)) need = (seedF (l.take i) need + (valF (rd_T31 l (i : Int)).f2 need).1) % 1073741789 := by
  rw [take31_snoc h]; unfold seedF; rw [List.foldl_append]; rfl
theorem rs_seedF (l : List S31) (need : Nat) : rs (seedF l need) := by
  unfold seedF
  have : ∀ (l : List S31) (a : Int), rs a → rs (l.foldl (fun a p => (a + (valF p.f2 need).1) % 1073741789) a) := by
    intro l
    induction l with
    | nil => intro a ha; exact ha
    | cons t l ih => intro a ha; exact ih _ (rs_mod _)
  exact this l 0 ⟨by decide, by decide⟩
theorem rs_valF (l : List S47) (need : Nat) : rs (valF l need).1 := by
  unfold valF
  split
  · exact thrF_rs _ _
  · exact ⟨by decide, by decide⟩
theorem cheatsL_snoc {l : List S31} {i : Nat} (h : i < l.length) (op : List S23) (need : Nat) : cheatsL (l.take (i + 1)) op need = cheatsL (l.take i) op need ++ if cheatB op need (rd_T31 l (i : Int)) = true then [(rd_T31 l (i : Int)).f0] else [] := by
  rw [take31_snoc h]; unfold cheatsL
  rw [List.filter_append, List.map_append]
  cases hc : cheatB op need (rd_T31 l (i : Int)) <;> simp [hc]
theorem rightN_snoc {l : List S31} {i : Nat} (h : i < l.length) (op : List S23) : rightN (l.take (i + 1)) op = rightN (l.take i) op + if fitsB op (rd_T31 l (i : Int)) = true then 1 else 0 := by
  rw [take31_snoc h]; unfold rightN
  rw [List.filter_append, List.length_append]
  cases hc : fitsB op (rd_T31 l (i : Int)) <;> simp [hc]
theorem rightN_le (l : List S31) (op : List S23) : rightN l op ≤ l.length := List.length_filter_le _ _
theorem pl_ok {l : List S31} (h : pledgesB l = true) {i : Nat} (hi : i < l.length) : okShs (rd_T31 l (i : Int)).f2 ∧ (rd_T31 l (i : Int)).f2.length = l.length ∧ (rd_T31 l (i : Int)).f0 = (i : Int) + 1 := by
  unfold pledgesB at h
  rw [Bool.and_eq_true, allFrom_iff] at h
  refine okShs_pl (h.1 i (Nat.zero_le _) hi) ?_
  have h2 := h.2
  unfold inB at h2
  simp only [Bool.and_eq_true, decide_eq_true_eq] at h2
  omega
theorem nodup_len {α : Type} [DecidableEq α] : ∀ (l m : List α), l.Nodup → (∀ x ∈ l, x ∈ m) → l.length ≤ m.length
  | [], _, _, _ => Nat.zero_le _
  | a :: l, m, hn, hs => by
    have ha := hs a List.mem_cons_self
    rw [List.nodup_cons] at hn
    have h1 := nodup_len l (m.erase a) hn.2 (fun x hx => (List.mem_erase_of_ne (fun e => hn.1 (by rw [← e]; exact hx))).2 (hs x (List.mem_cons_of_mem _ hx)))
    rw [List.length_erase_of_mem ha] at h1
    have := List.length_pos_of_mem ha
    rw [List.length_cons]; omega
theorem mem_int_map {l : List Int} {x : Int} : (Value.int .i64 x) ∈ l.map (Value.int .i64) ↔ x ∈ l := by
  rw [List.mem_map]
  constructor
  · rintro ⟨y, hy, e⟩; cases e; exact hy
  · intro h; exact ⟨x, h, rfl⟩
theorem intF_inv {α : Type} {enc : α → Value} {g : Int → Option α} {key v : Value} (h : intF enc g key = some v) : ∃ i x, key = .int .i64 i ∧ g i = some x ∧ v = enc x := by
  have hk : ∃ j, key = .int .i64 j := by
    unfold intF at h
    split at h
    · exact ⟨_, rfl⟩
    · cases h
  obtain ⟨j, rfl⟩ := hk
  rw [intF_at] at h
  cases hg : g j with
  | none => rw [hg] at h; cases h
  | some x => rw [hg] at h; exact ⟨j, x, rfl, hg, (Option.some.inj h).symm⟩
theorem cheatsL_ris {l : List S31} (hp : pledgesB l = true) (op : List S23) (need : Nat) : (cheatsL l op need).Pairwise (· < ·) := by
  unfold cheatsL
  refine List.Pairwise.sublist (List.Sublist.map _ (List.filter_sublist)) ?_
  rw [List.pairwise_map, List.pairwise_iff_getElem]
  intro i j hi hj hij
  have h1 := (pl_ok hp hi).2.2
  have h2 := (pl_ok hp hj).2.2
  rw [rd31_get hi] at h1
  rw [rd31_get hj] at h2
  omega
set_option maxHeartbeats 16000000 in
set_option maxRecDepth 100000 in
theorem draw_yes (A0 : Option Addr) (c0 : Nat) (l : List S31) (need : Nat) (A2 : Option Addr) (c2 : Nat) (op : List S23) (w : World) (hr0 : Kd.C k31 w A0 l.length l) (hc0 : l.length ≤ c0) (hr2 : Kd.C k23 w A2 op.length op) (hc2 : op.length ≤ c2)
    (ho : op.length ≤ 1000) (hok : okOp op) (hg : Gl w) (hp : pledgesB l = true) (hn : inB (need : Int) 1 (l.length : Int) = true) :
    Calls Tryd.prog 16 #[.slice A0 l.length c0, .int .i64 need, .slice A2 op.length c2] w (DrawPost w (drawF l need op)) := by
  have hl16 : l.length ≤ 16 := by unfold pledgesB inB at hp; simp only [Bool.and_eq_true, decide_eq_true_eq] at hp; omega
  obtain ⟨K, hK⟩ := (pledges_ev (show l.length ≤ 1000 by omega)).rounds
  rw [hp] at hK
  have HK := Aside0.mk hK
  have HN := Aside0.mk hn
  have HP := Aside0.mk hp
  have HR0 := Aside0.mk hr0
  have HC0 := Aside0.mk hc0
  have HR2 := Aside0.mk hr2
  have HC2 := Aside0.mk hc2
  have HG := Aside0.mk hg
  have HOK := Aside0.mk hok
  have hnl : need ≤ l.length ∧ 1 ≤ need := by unfold inB at hn; simp only [Bool.and_eq_true, decide_eq_true_eq] at hn; omega
  have hmm := @run_makeMap Tryd.prog
  have hu23 := Tryd.underlying23
  have hu31 := Tryd.underlying31
  clear hr0 hc0 hr2 hc2 hg hK hp hn hok
  go_enter Tryd.func16, Tryd.ntmps16
  go_wp2_with (first
    | (go_at_call 38; (with_reducible refine (lottery_pledges.calls K A0 c0 l true _ HR0.out HC0.out HK.out).mono ?_); rintro e w1 ⟨rfl, hd⟩; have HD := Aside0.mk hd; clear hd)
    | (go_at_call 29; (with_reducible refine (between_calls (need : Int) 1 (l.length : Int) true HN.out _).mono ?_); rintro e w2 ⟨rfl, hd2⟩; have HD2 := Aside0.mk (below_step HD.out hd2.below); clear hd2))
  have HM0 := Aside0.mk (MapAt.made w2 Tryd.prog 3)
  have HB0 := Aside0.mk (below_alloc HD2.out (.map #[] 0))
  have hBw : w.heap.size ≤ w2.heap.size := HD2.out.size
  clear HD HD2 HK
  generalize hB : w2.heap.size = B at *
  have HBB := Aside0.mk hB
  clear hB
  go_loopg [39] op.length (fun gk v39 w' => ∃ i : Nat, v39 = .int .i64 i ∧ Aside0 (i ≤ op.length ∧ gk = op.length - i) ∧ Aside0 ((op.take i).all (okSec l.length) = true ∧ (whosL (op.take i)).Nodup) ∧
    Aside0 (∃ n, MapAt w' Tryd.prog 3 B (intF enc23 (byF (op.take i))) n) ∧ Aside0 (Below w.heap.size w w'))
  case atStart => exact ⟨0, rfl, ⟨Nat.zero_le _, rfl⟩, ⟨rfl, List.nodup_nil⟩, ⟨0, by rw [List.take_zero, ← byF_nil]; exact HM0.out⟩, HB0⟩
  case round =>
    clear HM0 HB0 hmm
    obtain ⟨i, rfl, HI, HGd, HM, HB⟩ := hrel
    have hi := HI.out.1
    by_cases hlt : i < op.length
    · obtain ⟨ad, e, x0, x1, x2⟩ := at_T23 HR2.out (i : Int) (by omega) (by omega)
      cases e
      simp only [Int.toNat_natCast] at x0 x1 x2
      replace x0 := (HB.out.cell (World.block_lt_of_cell? w _ x0)).trans x0
      replace x1 := (HB.out.cell (World.block_lt_of_cell? w _ x1)).trans x1
      replace x2 := (HB.out.cell (World.block_lt_of_cell? w _ x2)).trans x2
      have HWs := Aside0.mk (whosL_snoc hlt)
      have HX := Aside0.mk (HOK.out _ (rd23_mem hlt))
      obtain ⟨n, hM⟩ := HM.out
      have HM1 := Aside0.mk hM
      have HKy := Aside0.mk (setI_wf HX.out.1)
      clear hM HM
      cases hby : byF (op.take i) (rd_T23 op (i : Int)).f0 with
      | some y =>
        have HE : Aside0 (drawF l need op = (0, [], 1)) := ⟨by
          unfold drawF
          have h : (rd_T23 op (i : Int)).f0 ∈ whosL (op.take i) := Classical.byContradiction fun h => by rw [byF_none.2 h] at hby; cases hby
          rw [secrets_twice hlt h, Bool.and_false, if_neg (by decide)]⟩
        have HBy : Aside0 ((intF enc23 (byF (op.take i))) (.int .i64 (rd_T23 op (i : Int)).f0) = some (enc23 y)) := ⟨by rw [intF_at, hby]; rfl⟩
        clear hby
        generalize rd_T23 op (i : Int) = x at *
        go_wp2_with (at_lookup; refine wpList_look rfl (.tmp 44) (.tmp 46) 76 true rfl 3 23 keyInt Tryd.underlying76 (enc23 z23) zero23 B n (intF enc23 (byF (op.take i))) rfl (HM1.out.alloc _) (.int .i64 x.f0) (.int .i64 x.f0) rfl HKy.out (some (enc23 y)) HBy.out ?_; simp only [looked_true, Option.getD_some, Option.isSome_some, enc23])
        go_ret3
        exact ⟨_, by rw [HE.out]; rfl, by rw [HE.out]; exact Kd.R_nil _ _ _ _ _, below_alloc (below_alloc HB.out _) _⟩
      | none =>
        have HBy : Aside0 ((intF enc23 (byF (op.take i))) (.int .i64 (rd_T23 op (i : Int)).f0) = none) := ⟨by rw [intF_at, hby]; rfl⟩
        have hnw := byF_none.1 hby
        have HSn := Aside0.mk (byF_snoc hlt hnw)
        have HNd : Aside0 ((whosL (op.take (i + 1))).Nodup) := ⟨by
          rw [HWs.out, List.nodup_append]
          exact ⟨HGd.out.2, List.nodup_cons.2 ⟨List.not_mem_nil, List.nodup_nil⟩, fun a ha b hb e => by
            rw [List.mem_singleton] at hb; subst hb; subst e; exact hnw ha⟩⟩
        clear hby hnw
        cases h1 : inB (rd_T23 op (i : Int)).f0 1 (l.length : Int) with
        | false =>
          have HE : Aside0 (drawF l need op = (0, [], 1)) := ⟨by
            unfold drawF
            rw [secrets_bad hlt (by unfold okSec; rw [h1]; rfl), Bool.and_false, if_neg (by decide)]⟩
          have H1 := Aside0.mk h1
          clear h1
          generalize rd_T23 op (i : Int) = x at *
          go_wp2_with (first
            | (at_lookup; refine wpList_look rfl (.tmp 44) (.tmp 46) 76 true rfl 3 23 keyInt Tryd.underlying76 (enc23 z23) zero23 B n (intF enc23 (byF (op.take i))) rfl (HM1.out.alloc _) (.int .i64 x.f0) (.int .i64 x.f0) rfl HKy.out none HBy.out ?_; simp only [looked_true, Option.getD_none, Option.isSome_none, enc23])
            | (go_at_call 29; (with_reducible refine (between_calls x.f0 1 (l.length : Int) false H1.out _).mono ?_); rintro e w3 ⟨rfl, ⟨nd, rfl⟩⟩))
          go_ret3
          exact ⟨_, by rw [HE.out]; rfl, by rw [HE.out]; exact Kd.R_nil _ _ _ _ _, pw_below_drewN (below_alloc (below_alloc HB.out _) _) _⟩
        | true =>
          cases h2 : (isR (rd_T23 op (i : Int)).f1 && isR (rd_T23 op (i : Int)).f2) with
          | false =>
            have HE : Aside0 (drawF l need op = (0, [], 1)) := ⟨by
              unfold drawF
              rw [secrets_bad hlt (by unfold okSec; rw [h1, h2]; rfl), Bool.and_false, if_neg (by decide)]⟩
            have H1 := Aside0.mk h1
            have H2 := Aside0.mk h2
            clear h1 h2
            generalize rd_T23 op (i : Int) = x at *
            go_wp2_with (first
              | (at_lookup; refine wpList_look rfl (.tmp 44) (.tmp 46) 76 true rfl 3 23 keyInt Tryd.underlying76 (enc23 z23) zero23 B n (intF enc23 (byF (op.take i))) rfl (HM1.out.alloc _) (.int .i64 x.f0) (.int .i64 x.f0) rfl HKy.out none HBy.out ?_; simp only [looked_true, Option.getD_none, Option.isSome_none, enc23])
              | (go_at_call 29; (with_reducible refine (between_calls x.f0 1 (l.length : Int) true H1.out _).mono ?_); rintro e w3 ⟨rfl, ⟨nd, rfl⟩⟩)
              | (go_at_call 30; (with_reducible refine (isRes_two _ x.f1 x.f2 false H2.out _ (C_two x.f1 x.f2 (blk_p2d _ _ _ _ _))).mono ?_); rintro e w4 ⟨rfl, hd⟩; have HD := Aside0.mk hd; clear hd))
            go_ret3
            exact ⟨_, by rw [HE.out]; rfl, by rw [HE.out]; exact Kd.R_nil _ _ _ _ _, below_step (below_alloc (pw_below_drewN (below_alloc (below_alloc HB.out _) _) _) _) HD.out⟩
          | true =>
            have H1 := Aside0.mk h1
            have H2 := Aside0.mk h2
            have HGd' : Aside0 ((op.take (i + 1)).all (okSec l.length) = true ∧ (whosL (op.take (i + 1))).Nodup) := ⟨by
              refine ⟨?_, HNd.out⟩
              rw [List.take_succ_eq_append_getElem hlt, List.all_append, HGd.out.1, ← rd23_get hlt]
              simp only [List.all_cons, List.all_nil, Bool.and_true, Bool.true_and, okSec]
              rw [h1, h2]; rfl⟩
            clear h1 h2
            generalize rd_T23 op (i : Int) = x at *
            go_wp2_with (first
              | (at_lookup; refine wpList_look rfl (.tmp 44) (.tmp 46) 76 true rfl 3 23 keyInt Tryd.underlying76 (enc23 z23) zero23 B n (intF enc23 (byF (op.take i))) rfl (HM1.out.alloc _) (.int .i64 x.f0) (.int .i64 x.f0) rfl HKy.out none HBy.out ?_; simp only [looked_true, Option.getD_none, Option.isSome_none, enc23])
              | (go_at_call 29; (with_reducible refine (between_calls x.f0 1 (l.length : Int) true H1.out _).mono ?_); rintro e w3 ⟨rfl, ⟨nd, rfl⟩⟩)
              | (go_at_call 30; (with_reducible refine (isRes_two _ x.f1 x.f2 true H2.out _ (C_two x.f1 x.f2 (blk_p2d _ _ _ _ _))).mono ?_); rintro e w4 ⟨rfl, hd⟩; have BX := Aside0.mk (blk_below (blk_alloc (blk_drewN (blk_alloc (blk_new wr (.cells #[.int .i64 x.f0, .int .i64 x.f1, .int .i64 x.f2] 23)) _) _) _) hd); have z0 : w4.cell? ⟨wr.heap.size, 0, none⟩ = some (.int .i64 x.f0) := (blk_cell BX.out 0).trans rfl; have z1 : w4.cell? ⟨wr.heap.size, 1, none⟩ = some (.int .i64 x.f1) := (blk_cell BX.out 1).trans rfl; have z2 : w4.cell? ⟨wr.heap.size, 2, none⟩ = some (.int .i64 x.f2) := (blk_cell BX.out 2).trans rfl; have HM2 := Aside0.mk (((((HM1.out.alloc _).alloc _).drewN _).alloc _).kept hd); have HD := Aside0.mk (below_step (below_alloc (pw_below_drewN (below_alloc (below_alloc HB.out _) _) _) _) hd); clear hd)
              | (at_mapUpdate; refine wpList_store rfl (.tmp 68) (.tmp 70) (.tmp 71) 76 rfl 3 23 keyInt Tryd.underlying76 B n (intF enc23 (byF (op.take i))) rfl HM2.out (.int .i64 x.f0) (enc23 x) (.int .i64 x.f0) rfl rfl HKy.out ?_; intro w5 hm5 hg5; have HD5 := Aside0.mk (HD.out.grown hg5 HD.out.size (by rintro k h; cases h; exact hBw)); have HM5 := Aside0.mk hm5; clear hm5 hg5))
            go_roundg (op.length - (i + 1))
            case measure => have := HI.out; omega
            case rel => exact ⟨i + 1, by go_num, ⟨by omega, rfl⟩, HGd', ⟨_, by rw [← HSn.out, ← intF_put]; exact HM5.out⟩, HD5⟩
    · obtain rfl : i = op.length := by omega
      have hgd := HGd.out
      rw [List.take_length] at hgd HM
      have HSec : Aside0 (secretsB op l.length = true) := ⟨by unfold secretsB; rw [hgd.1, decide_eq_true hgd.2]; rfl⟩
      obtain ⟨n0, hM⟩ := HM.out
      have HM1 := Aside0.mk hM
      have hBlt := hM.lt
      clear hM HM hgd HGd
      have hmm := @run_makeMap Tryd.prog
      go_wp2
      clear hmm
      have HMc := Aside0.mk (MapAt.made wr Tryd.prog 3)
      have HMb := Aside0.mk (HM1.out.alloc (.map #[] 0))
      have HB1 := Aside0.mk (below_alloc HB.out (.map #[] 0))
      have hBc : w.heap.size ≤ wr.heap.size := HB.out.size
      clear HM1 HB HI hi hlt
      generalize hBe : wr.heap.size = Bc at *
      have HBe := Aside0.mk hBe
      clear hBe
      go_loopg [14, 15, 76] l.length (fun gk v14 v15 v76 w' => ∃ i : Nat, v76 = .int .i64 i ∧ v14 = .int .i64 (seedF (l.take i) need) ∧ v15 = .int .i64 (rightN (l.take i) op : Int) ∧ Aside0 (i ≤ l.length ∧ gk = l.length - i) ∧
        Aside0 (MapAt w' Tryd.prog 3 B (intF enc23 (byF op)) n0) ∧ Aside0 (∃ n, MapAt w' Tryd.prog 3 Bc (intF Value.bool (setI (cheatsL (l.take i) op need))) n) ∧ Aside0 (Below w.heap.size w w'))
      case atStart => exact ⟨0, rfl, rfl, rfl, ⟨Nat.zero_le _, rfl⟩, HMb, ⟨0, by rw [List.take_zero]; rw [show cheatsL [] op need = [] from rfl, ← setI_nil]; exact HMc.out⟩, HB1⟩
      case round =>
        clear HMb HMc HB1
        obtain ⟨i, rfl, rfl, rfl, HI, HMb, HMc, HB⟩ := hrel
        have hi := HI.out.1
        by_cases hlt : i < l.length
        · obtain ⟨ad, Ap, cp, e, x0, x1, x2, hcp, hkp⟩ := at_T31 HR0.out (i : Int) (by omega) (by omega)
          cases e
          simp only [Int.toNat_natCast] at x0 x1 x2
          replace x0 := (HB.out.cell (World.block_lt_of_cell? w _ x0)).trans x0
          replace x1 := (HB.out.cell (World.block_lt_of_cell? w _ x1)).trans x1
          replace x2 := (HB.out.cell (World.block_lt_of_cell? w _ x2)).trans x2
          obtain ⟨hpo, hpl, hp0⟩ := pl_ok HP.out hlt
          obtain ⟨Kv, hKv⟩ := (value_ev (l := (rd_T31 l (i : Int)).f2) hpo (by omega) (need := need) (by omega) (rd_T31 l (i : Int)).f0 (rd_T31 l (i : Int)).f1).rounds
          have HKv := Aside0.mk hKv
          have HKp := Aside0.mk hkp
          have HCp := Aside0.mk hcp
          have HSe := Aside0.mk (seedF_snoc hlt need)
          have HRt := Aside0.mk (rightN_snoc hlt op)
          have HCh := Aside0.mk (cheatsL_snoc hlt op need)
          have HRv := Aside0.mk (rs_valF (rd_T31 l (i : Int)).f2 need)
          have HRs := Aside0.mk (rs_seedF (l.take i) need)
          have hrn := rightN_le (l.take i) op
          rw [List.length_take] at hrn
          have HKy := Aside0.mk (setI_wf (x := (rd_T31 l (i : Int)).f0) (by omega))
          have hfit : fitsB op (rd_T31 l (i : Int)) = (match byF op (rd_T31 l (i : Int)).f0 with | none => false | some s => decide (sumF s.f0 s.f1 s.f2 = (rd_T31 l (i : Int)).f1)) := rfl
          have hche : cheatB op need (rd_T31 l (i : Int)) = (!(valF (rd_T31 l (i : Int)).f2 need).2 || match byF op (rd_T31 l (i : Int)).f0 with | none => false | some s => !decide (sumF s.f0 s.f1 s.f2 = (rd_T31 l (i : Int)).f1) || decide (s.f1 ≠ (valF (rd_T31 l (i : Int)).f2 need).1)) := rfl
          have hbyo : ∀ s, byF op (rd_T31 l (i : Int)).f0 = some s → okI s.f0 ∧ okI s.f1 ∧ okI s.f2 := fun s hs => HOK.out s (List.mem_of_find?_eq_some hs)
          have HPl := Aside0.mk hpl
          obtain ⟨nc, hMc⟩ := HMc.out
          have HM2 := Aside0.mk hMc
          clear hKv hkp hcp hpo hpl hp0 hMc HMc
          generalize hvs : (valF (rd_T31 l (i : Int)).f2 need) = vs at *
          obtain ⟨v, sd⟩ := vs
          simp only at hche HRv HSe
          cases hby : byF op (rd_T31 l (i : Int)).f0 with
          | none =>
            replace hfit : fitsB op (rd_T31 l (i : Int)) = false := by rw [hfit, hby]
            replace hche : cheatB op need (rd_T31 l (i : Int)) = !sd := by rw [hche, hby]; cases sd <;> rfl
            have HBy : Aside0 ((intF enc23 (byF op)) (.int .i64 (rd_T31 l (i : Int)).f0) = none) := ⟨by rw [intF_at, hby]; rfl⟩
            rw [hfit, if_neg (by decide)] at HRt
            rw [hche] at HCh
            clear hby hbyo hfit hche hvs
            cases sd with
            | true =>
              have HRt' : Aside0 (rightN (l.take (i + 1)) op = rightN (l.take i) op) := ⟨HRt.out⟩
              have HCh' : Aside0 (cheatsL (l.take (i + 1)) op need = cheatsL (l.take i) op need) := ⟨HCh.out.trans (List.append_nil _)⟩
              clear HRt HCh
              generalize rd_T31 l (i : Int) = p at *
              go_upto_region 19 with (first
                | (go_at_call 39; (with_reducible refine (lottery_value.calls Kv p.f0 p.f1 Ap cp p.f2 (need : Int) v true _ ?s1 HCp.out HKv.out).mono ?_); (case s1 => exact Kd.C_alloc (Kd.C_below HKp.out HB.out) _); rintro e w3 ⟨rfl, hd⟩; have BX := Aside0.mk (blk_below (blk_new wr (.cells #[.int .i64 p.f0, .int .u64 p.f1, .slice Ap p.f2.length cp] 31)) hd); have z0 : w3.cell? ⟨wr.heap.size, 0, none⟩ = some (.int .i64 p.f0) := (blk_cell BX.out 0).trans rfl; have z1 : w3.cell? ⟨wr.heap.size, 1, none⟩ = some (.int .u64 p.f1) := (blk_cell BX.out 1).trans rfl; have HMb3 := Aside0.mk ((HMb.out.alloc _).kept hd); have HMc3 := Aside0.mk ((HM2.out.alloc _).kept hd); have HB3 := Aside0.mk (below_step (below_alloc HB.out _) hd); clear hd)
                | (go_at_call 40; (with_reducible refine (plus_calls (seedF (l.take i) need) v _ HRs.out HRv.out rfl _).mono ?_); rintro e w4 ⟨rfl, hd⟩; have hb := hd.below; have BX4 := Aside0.mk (blk_below BX.out hb); have z0' : w4.cell? ⟨wr.heap.size, 0, none⟩ = some (.int .i64 p.f0) := (blk_cell BX4.out 0).trans rfl; have z1' : w4.cell? ⟨wr.heap.size, 1, none⟩ = some (.int .u64 p.f1) := (blk_cell BX4.out 1).trans rfl; have HMb4 := Aside0.mk (HMb3.out.kept hb); have HMc4 := Aside0.mk (HMc3.out.kept hb); have HB4 := Aside0.mk (below_step HB3.out hb); clear hd hb z0 z1)
                | (at_lookup; refine wpList_look rfl (.tmp 90) (.tmp 92) 76 true rfl 3 23 keyInt Tryd.underlying76 (enc23 z23) zero23 B n0 (intF enc23 (byF op)) rfl HMb4.out (.int .i64 p.f0) (.int .i64 p.f0) rfl HKy.out none HBy.out ?_; simp only [looked_true, Option.getD_none, Option.isSome_none, enc23]))
              have HMb5 := Aside0.mk (HMb4.out.alloc (.cells #[.int .i64 z23.f0, .int .i64 z23.f1, .int .i64 z23.f2] 23))
              have HMc5 := Aside0.mk (HMc4.out.alloc (.cells #[.int .i64 z23.f0, .int .i64 z23.f1, .int .i64 z23.f2] 23))
              have HB5 := Aside0.mk (below_alloc HB4.out (.cells #[.int .i64 z23.f0, .int .i64 z23.f1, .int .i64 z23.f2] 23))
              have y0 : (w4.alloc (.cells #[.int .i64 z23.f0, .int .i64 z23.f1, .int .i64 z23.f2] 23)).cell? ⟨wr.heap.size, 0, none⟩ = some (.int .i64 p.f0) := (blk_cell (blk_alloc BX4.out _) 0).trans rfl
              clear HMb4 HMc4 HB4 HMb3 HMc3 HB3 z0' z1' x0 x1 x2 BX BX4
              generalize (w4.alloc (.cells #[.int .i64 z23.f0, .int .i64 z23.f1, .int .i64 z23.f2] 23)) = W at *
              generalize w4.heap.size = g2 at *
              generalize wr.heap.size = g1 at *
              go_quiet (fail)
              go_wp2
              go_roundg (l.length - (i + 1))
              case measure => have := HI.out; omega
              case rel => exact ⟨i + 1, by go_num, by rw [HSe.out], by rw [HRt'.out]; try go_num, ⟨by omega, rfl⟩, ⟨HMb5.out.drewN _⟩, ⟨⟨nc, by rw [HCh'.out]; exact HMc5.out.drewN _⟩⟩, ⟨pw_below_drewN HB5.out _⟩⟩
            | false =>
              have HRt' : Aside0 (rightN (l.take (i + 1)) op = rightN (l.take i) op) := ⟨HRt.out⟩
              have HCh' : Aside0 (cheatsL (l.take (i + 1)) op need = cheatsL (l.take i) op need ++ [(rd_T31 l (i : Int)).f0]) := ⟨HCh.out⟩
              clear HRt HCh
              generalize rd_T31 l (i : Int) = p at *
              go_upto_region 19 with (first
                | (go_at_call 39; (with_reducible refine (lottery_value.calls Kv p.f0 p.f1 Ap cp p.f2 (need : Int) v false _ ?s1 HCp.out HKv.out).mono ?_); (case s1 => exact Kd.C_alloc (Kd.C_below HKp.out HB.out) _); rintro e w3 ⟨rfl, hd⟩; have BX := Aside0.mk (blk_below (blk_new wr (.cells #[.int .i64 p.f0, .int .u64 p.f1, .slice Ap p.f2.length cp] 31)) hd); have z0 : w3.cell? ⟨wr.heap.size, 0, none⟩ = some (.int .i64 p.f0) := (blk_cell BX.out 0).trans rfl; have z1 : w3.cell? ⟨wr.heap.size, 1, none⟩ = some (.int .u64 p.f1) := (blk_cell BX.out 1).trans rfl; have HMb3 := Aside0.mk ((HMb.out.alloc _).kept hd); have HMc3 := Aside0.mk ((HM2.out.alloc _).kept hd); have HB3 := Aside0.mk (below_step (below_alloc HB.out _) hd); clear hd)
                | (go_at_call 40; (with_reducible refine (plus_calls (seedF (l.take i) need) v _ HRs.out HRv.out rfl _).mono ?_); rintro e w4 ⟨rfl, hd⟩; have hb := hd.below; have BX4 := Aside0.mk (blk_below BX.out hb); have z0' : w4.cell? ⟨wr.heap.size, 0, none⟩ = some (.int .i64 p.f0) := (blk_cell BX4.out 0).trans rfl; have z1' : w4.cell? ⟨wr.heap.size, 1, none⟩ = some (.int .u64 p.f1) := (blk_cell BX4.out 1).trans rfl; have HMb4 := Aside0.mk (HMb3.out.kept hb); have HMc4 := Aside0.mk (HMc3.out.kept hb); have HB4 := Aside0.mk (below_step HB3.out hb); clear hd hb z0 z1)
                | (at_lookup; refine wpList_look rfl (.tmp 90) (.tmp 92) 76 true rfl 3 23 keyInt Tryd.underlying76 (enc23 z23) zero23 B n0 (intF enc23 (byF op)) rfl HMb4.out (.int .i64 p.f0) (.int .i64 p.f0) rfl HKy.out none HBy.out ?_; simp only [looked_true, Option.getD_none, Option.isSome_none, enc23]))
              have HMb5 := Aside0.mk (HMb4.out.alloc (.cells #[.int .i64 z23.f0, .int .i64 z23.f1, .int .i64 z23.f2] 23))
              have HMc5 := Aside0.mk (HMc4.out.alloc (.cells #[.int .i64 z23.f0, .int .i64 z23.f1, .int .i64 z23.f2] 23))
              have HB5 := Aside0.mk (below_alloc HB4.out (.cells #[.int .i64 z23.f0, .int .i64 z23.f1, .int .i64 z23.f2] 23))
              have y0 : (w4.alloc (.cells #[.int .i64 z23.f0, .int .i64 z23.f1, .int .i64 z23.f2] 23)).cell? ⟨wr.heap.size, 0, none⟩ = some (.int .i64 p.f0) := (blk_cell (blk_alloc BX4.out _) 0).trans rfl
              clear HMb4 HMc4 HB4 HMb3 HMc3 HB3 z0' z1' x0 x1 x2 BX BX4
              generalize (w4.alloc (.cells #[.int .i64 z23.f0, .int .i64 z23.f1, .int .i64 z23.f2] 23)) = W at *
              generalize w4.heap.size = g2 at *
              generalize wr.heap.size = g1 at *
              go_quiet (fail)
              go_wp2_with ((at_mapUpdate; refine wpList_store rfl (.tmp 122) (.tmp 124) (.const (.bool true)) 72 rfl 3 4 keyInt Tryd.underlying72 Bc nc (intF Value.bool (setI (cheatsL (l.take i) op need))) rfl (HMc5.out.drewN _) (.int .i64 p.f0) (.bool true) (.int .i64 p.f0) rfl rfl HKy.out ?_; intro w6 hm6 hg6; have HB6 := Aside0.mk ((pw_below_drewN HB5.out _).grown hg6 (pw_below_drewN HB5.out _).size (by rintro k h; cases h; exact hBc)); have HMc6 := Aside0.mk hm6; have HMb6 := Aside0.mk ((HMb5.out.drewN _).grown hg6 (by intro h; injection h with h; omega)); clear hm6 hg6))
              go_roundg (l.length - (i + 1))
              case measure => have := HI.out; omega
              case rel => exact ⟨i + 1, by go_num, by rw [HSe.out], by rw [HRt'.out]; try go_num, ⟨by omega, rfl⟩, HMb6, ⟨⟨_, by rw [HCh'.out, ← setI_put, ← intF_put]; exact HMc6.out⟩⟩, HB6⟩
          | some s =>
            replace hfit : fitsB op (rd_T31 l (i : Int)) = decide (sumF s.f0 s.f1 s.f2 = (rd_T31 l (i : Int)).f1) := by rw [hfit, hby]
            replace hche : cheatB op need (rd_T31 l (i : Int)) = (!sd || (!decide (sumF s.f0 s.f1 s.f2 = (rd_T31 l (i : Int)).f1) || decide (s.f1 ≠ v))) := by rw [hche, hby]
            have HBy : Aside0 ((intF enc23 (byF op)) (.int .i64 (rd_T31 l (i : Int)).f0) = some (enc23 s)) := ⟨by rw [intF_at, hby]; rfl⟩
            have HSm : Aside0 (lottery_sum.f s.f0 s.f1 s.f2 = some (sumF s.f0 s.f1 s.f2)) := ⟨by unfold lottery_sum.f; rw [if_pos (hbyo s hby)]⟩
            rw [hfit] at HRt
            rw [hche] at HCh
            clear hby hbyo hfit hche hvs
            generalize sumF s.f0 s.f1 s.f2 = sm at *
            by_cases hf : sm = (rd_T31 l (i : Int)).f1
            · rw [decide_eq_true hf] at HRt HCh
              have e1 : (sm == (rd_T31 l (i : Int)).f1) = true := beq_iff_eq.2 hf
              clear hf
              by_cases hn : s.f1 = v
              · rw [decide_eq_false (fun h => h hn)] at HCh
                have e2 : (s.f1 != v) = false := by rw [hn]; simp
                clear hn
                cases sd with
                | true =>
                  have HRt' : Aside0 (rightN (l.take (i + 1)) op = rightN (l.take i) op + 1) := ⟨HRt.out⟩
                  have HCh' : Aside0 (cheatsL (l.take (i + 1)) op need = cheatsL (l.take i) op need) := ⟨HCh.out.trans (List.append_nil _)⟩
                  clear HRt HCh
                  generalize rd_T31 l (i : Int) = p at *
                  go_upto_region 19 with (first
                    | (go_at_call 39; (with_reducible refine (lottery_value.calls Kv p.f0 p.f1 Ap cp p.f2 (need : Int) v true _ ?s1 HCp.out HKv.out).mono ?_); (case s1 => exact Kd.C_alloc (Kd.C_below HKp.out HB.out) _); rintro e w3 ⟨rfl, hd⟩; have BX := Aside0.mk (blk_below (blk_new wr (.cells #[.int .i64 p.f0, .int .u64 p.f1, .slice Ap p.f2.length cp] 31)) hd); have z0 : w3.cell? ⟨wr.heap.size, 0, none⟩ = some (.int .i64 p.f0) := (blk_cell BX.out 0).trans rfl; have z1 : w3.cell? ⟨wr.heap.size, 1, none⟩ = some (.int .u64 p.f1) := (blk_cell BX.out 1).trans rfl; have HMb3 := Aside0.mk ((HMb.out.alloc _).kept hd); have HMc3 := Aside0.mk ((HM2.out.alloc _).kept hd); have HB3 := Aside0.mk (below_step (below_alloc HB.out _) hd); clear hd)
                    | (go_at_call 40; (with_reducible refine (plus_calls (seedF (l.take i) need) v _ HRs.out HRv.out rfl _).mono ?_); rintro e w4 ⟨rfl, hd⟩; have hb := hd.below; have BX4 := Aside0.mk (blk_below BX.out hb); have z0' : w4.cell? ⟨wr.heap.size, 0, none⟩ = some (.int .i64 p.f0) := (blk_cell BX4.out 0).trans rfl; have z1' : w4.cell? ⟨wr.heap.size, 1, none⟩ = some (.int .u64 p.f1) := (blk_cell BX4.out 1).trans rfl; have HMb4 := Aside0.mk (HMb3.out.kept hb); have HMc4 := Aside0.mk (HMc3.out.kept hb); have HB4 := Aside0.mk (below_step HB3.out hb); clear hd hb z0 z1)
                    | (at_lookup; refine wpList_look rfl (.tmp 90) (.tmp 92) 76 true rfl 3 23 keyInt Tryd.underlying76 (enc23 z23) zero23 B n0 (intF enc23 (byF op)) rfl HMb4.out (.int .i64 p.f0) (.int .i64 p.f0) rfl HKy.out (some (enc23 s)) HBy.out ?_; simp only [looked_true, Option.getD_some, Option.isSome_some, enc23]))
                  have HMb5 := Aside0.mk (HMb4.out.alloc (.cells #[.int .i64 s.f0, .int .i64 s.f1, .int .i64 s.f2] 23))
                  have HMc5 := Aside0.mk (HMc4.out.alloc (.cells #[.int .i64 s.f0, .int .i64 s.f1, .int .i64 s.f2] 23))
                  have HB5 := Aside0.mk (below_alloc HB4.out (.cells #[.int .i64 s.f0, .int .i64 s.f1, .int .i64 s.f2] 23))
                  have BS := Aside0.mk (blk_new w4 (.cells #[.int .i64 s.f0, .int .i64 s.f1, .int .i64 s.f2] 23))
                  have BP := Aside0.mk (blk_alloc BX4.out (.cells #[.int .i64 s.f0, .int .i64 s.f1, .int .i64 s.f2] 23))
                  have y0 : (w4.alloc (.cells #[.int .i64 s.f0, .int .i64 s.f1, .int .i64 s.f2] 23)).cell? ⟨wr.heap.size, 0, none⟩ = some (.int .i64 p.f0) := (blk_cell BP.out 0).trans rfl
                  have y1 : (w4.alloc (.cells #[.int .i64 s.f0, .int .i64 s.f1, .int .i64 s.f2] 23)).cell? ⟨wr.heap.size, 1, none⟩ = some (.int .u64 p.f1) := (blk_cell BP.out 1).trans rfl
                  have s0 : (w4.alloc (.cells #[.int .i64 s.f0, .int .i64 s.f1, .int .i64 s.f2] 23)).cell? ⟨w4.heap.size, 0, none⟩ = some (.int .i64 s.f0) := (blk_cell BS.out 0).trans rfl
                  have s1 : (w4.alloc (.cells #[.int .i64 s.f0, .int .i64 s.f1, .int .i64 s.f2] 23)).cell? ⟨w4.heap.size, 1, none⟩ = some (.int .i64 s.f1) := (blk_cell BS.out 1).trans rfl
                  have s2 : (w4.alloc (.cells #[.int .i64 s.f0, .int .i64 s.f1, .int .i64 s.f2] 23)).cell? ⟨w4.heap.size, 2, none⟩ = some (.int .i64 s.f2) := (blk_cell BS.out 2).trans rfl
                  clear HMb4 HMc4 HB4 HMb3 HMc3 HB3 z0' z1' x0 x1 x2 BX BX4
                  generalize (w4.alloc (.cells #[.int .i64 s.f0, .int .i64 s.f1, .int .i64 s.f2] 23)) = W at *
                  generalize w4.heap.size = g2 at *
                  generalize wr.heap.size = g1 at *
                  have HK5 : Aside0 (∀ W', Below W.heap.size W W' → (W'.cell? ⟨g2, 0, none⟩ = some (.int .i64 s.f0) ∧ W'.cell? ⟨g2, 1, none⟩ = some (.int .i64 s.f1) ∧ W'.cell? ⟨g2, 2, none⟩ = some (.int .i64 s.f2)) ∧ W'.cell? ⟨g1, 1, none⟩ = some (.int .u64 p.f1) ∧ W'.cell? ⟨g1, 0, none⟩ = some (.int .i64 p.f0)) := ⟨fun W' hb => ⟨⟨cell_on hb s0, cell_on hb s1, cell_on hb s2⟩, cell_on hb y1, cell_on hb y0⟩⟩
                  go_region_held3 (fun W' => (W'.cell? ⟨g2, 0, none⟩ = some (.int .i64 s.f0) ∧ W'.cell? ⟨g2, 1, none⟩ = some (.int .i64 s.f1) ∧ W'.cell? ⟨g2, 2, none⟩ = some (.int .i64 s.f2)) ∧ W'.cell? ⟨g1, 1, none⟩ = some (.int .u64 p.f1) ∧ W'.cell? ⟨g1, 0, none⟩ = some (.int .i64 p.f0))
                    ((first | (refine HK5.out _ ?_; (first | exact HBq.out | exact below_drew (Below.refl _ _) | exact Below.refl _ _)) | go_keep))
                    ((go_at_call 31; (with_reducible refine (lottery_sum.calls s.f0 s.f1 s.f2 sm _ HSm.out ?gl).mono ?_); (case gl => exact HG.out.below (below_drew HB5.out)); rintro e w5 ⟨rfl, hd⟩; have HBq := Aside0.mk (below_step (below_drew (Below.refl W.heap.size W)) hd); obtain ⟨⟨q0, q1, q2⟩, q3, q4⟩ := HK5.out _ HBq.out; clear hd))
                  have HMb7 := Aside0.mk (HMb5.out.kept HBq.out)
                  have HMc7 := Aside0.mk (HMc5.out.kept HBq.out)
                  have HB7 := Aside0.mk (below_step HB5.out HBq.out)
                  clear HMb5 HMc5 HB5 y0 y1 s0 s1 s2 HK5
                  go_wp2
                  go_roundg (l.length - (i + 1))
                  case measure => have := HI.out; omega
                  case rel => exact ⟨i + 1, by go_num, by rw [HSe.out], by rw [HRt'.out]; try go_num, ⟨by omega, rfl⟩, HMb7, ⟨⟨nc, by rw [HCh'.out]; exact HMc7.out⟩⟩, HB7⟩
                | false =>
                  have HRt' : Aside0 (rightN (l.take (i + 1)) op = rightN (l.take i) op + 1) := ⟨HRt.out⟩
                  have HCh' : Aside0 (cheatsL (l.take (i + 1)) op need = cheatsL (l.take i) op need ++ [(rd_T31 l (i : Int)).f0]) := ⟨HCh.out⟩
                  clear HRt HCh
                  generalize rd_T31 l (i : Int) = p at *
                  go_upto_region 19 with (first
                    | (go_at_call 39; (with_reducible refine (lottery_value.calls Kv p.f0 p.f1 Ap cp p.f2 (need : Int) v false _ ?s1 HCp.out HKv.out).mono ?_); (case s1 => exact Kd.C_alloc (Kd.C_below HKp.out HB.out) _); rintro e w3 ⟨rfl, hd⟩; have BX := Aside0.mk (blk_below (blk_new wr (.cells #[.int .i64 p.f0, .int .u64 p.f1, .slice Ap p.f2.length cp] 31)) hd); have z0 : w3.cell? ⟨wr.heap.size, 0, none⟩ = some (.int .i64 p.f0) := (blk_cell BX.out 0).trans rfl; have z1 : w3.cell? ⟨wr.heap.size, 1, none⟩ = some (.int .u64 p.f1) := (blk_cell BX.out 1).trans rfl; have HMb3 := Aside0.mk ((HMb.out.alloc _).kept hd); have HMc3 := Aside0.mk ((HM2.out.alloc _).kept hd); have HB3 := Aside0.mk (below_step (below_alloc HB.out _) hd); clear hd)
                    | (go_at_call 40; (with_reducible refine (plus_calls (seedF (l.take i) need) v _ HRs.out HRv.out rfl _).mono ?_); rintro e w4 ⟨rfl, hd⟩; have hb := hd.below; have BX4 := Aside0.mk (blk_below BX.out hb); have z0' : w4.cell? ⟨wr.heap.size, 0, none⟩ = some (.int .i64 p.f0) := (blk_cell BX4.out 0).trans rfl; have z1' : w4.cell? ⟨wr.heap.size, 1, none⟩ = some (.int .u64 p.f1) := (blk_cell BX4.out 1).trans rfl; have HMb4 := Aside0.mk (HMb3.out.kept hb); have HMc4 := Aside0.mk (HMc3.out.kept hb); have HB4 := Aside0.mk (below_step HB3.out hb); clear hd hb z0 z1)
                    | (at_lookup; refine wpList_look rfl (.tmp 90) (.tmp 92) 76 true rfl 3 23 keyInt Tryd.underlying76 (enc23 z23) zero23 B n0 (intF enc23 (byF op)) rfl HMb4.out (.int .i64 p.f0) (.int .i64 p.f0) rfl HKy.out (some (enc23 s)) HBy.out ?_; simp only [looked_true, Option.getD_some, Option.isSome_some, enc23]))
                  have HMb5 := Aside0.mk (HMb4.out.alloc (.cells #[.int .i64 s.f0, .int .i64 s.f1, .int .i64 s.f2] 23))
                  have HMc5 := Aside0.mk (HMc4.out.alloc (.cells #[.int .i64 s.f0, .int .i64 s.f1, .int .i64 s.f2] 23))
                  have HB5 := Aside0.mk (below_alloc HB4.out (.cells #[.int .i64 s.f0, .int .i64 s.f1, .int .i64 s.f2] 23))
                  have BS := Aside0.mk (blk_new w4 (.cells #[.int .i64 s.f0, .int .i64 s.f1, .int .i64 s.f2] 23))
                  have BP := Aside0.mk (blk_alloc BX4.out (.cells #[.int .i64 s.f0, .int .i64 s.f1, .int .i64 s.f2] 23))
                  have y0 : (w4.alloc (.cells #[.int .i64 s.f0, .int .i64 s.f1, .int .i64 s.f2] 23)).cell? ⟨wr.heap.size, 0, none⟩ = some (.int .i64 p.f0) := (blk_cell BP.out 0).trans rfl
                  have y1 : (w4.alloc (.cells #[.int .i64 s.f0, .int .i64 s.f1, .int .i64 s.f2] 23)).cell? ⟨wr.heap.size, 1, none⟩ = some (.int .u64 p.f1) := (blk_cell BP.out 1).trans rfl
                  have s0 : (w4.alloc (.cells #[.int .i64 s.f0, .int .i64 s.f1, .int .i64 s.f2] 23)).cell? ⟨w4.heap.size, 0, none⟩ = some (.int .i64 s.f0) := (blk_cell BS.out 0).trans rfl
                  have s1 : (w4.alloc (.cells #[.int .i64 s.f0, .int .i64 s.f1, .int .i64 s.f2] 23)).cell? ⟨w4.heap.size, 1, none⟩ = some (.int .i64 s.f1) := (blk_cell BS.out 1).trans rfl
                  have s2 : (w4.alloc (.cells #[.int .i64 s.f0, .int .i64 s.f1, .int .i64 s.f2] 23)).cell? ⟨w4.heap.size, 2, none⟩ = some (.int .i64 s.f2) := (blk_cell BS.out 2).trans rfl
                  clear HMb4 HMc4 HB4 HMb3 HMc3 HB3 z0' z1' x0 x1 x2 BX BX4
                  generalize (w4.alloc (.cells #[.int .i64 s.f0, .int .i64 s.f1, .int .i64 s.f2] 23)) = W at *
                  generalize w4.heap.size = g2 at *
                  generalize wr.heap.size = g1 at *
                  have HK5 : Aside0 (∀ W', Below W.heap.size W W' → (W'.cell? ⟨g2, 0, none⟩ = some (.int .i64 s.f0) ∧ W'.cell? ⟨g2, 1, none⟩ = some (.int .i64 s.f1) ∧ W'.cell? ⟨g2, 2, none⟩ = some (.int .i64 s.f2)) ∧ W'.cell? ⟨g1, 1, none⟩ = some (.int .u64 p.f1) ∧ W'.cell? ⟨g1, 0, none⟩ = some (.int .i64 p.f0)) := ⟨fun W' hb => ⟨⟨cell_on hb s0, cell_on hb s1, cell_on hb s2⟩, cell_on hb y1, cell_on hb y0⟩⟩
                  go_region_held3 (fun W' => (W'.cell? ⟨g2, 0, none⟩ = some (.int .i64 s.f0) ∧ W'.cell? ⟨g2, 1, none⟩ = some (.int .i64 s.f1) ∧ W'.cell? ⟨g2, 2, none⟩ = some (.int .i64 s.f2)) ∧ W'.cell? ⟨g1, 1, none⟩ = some (.int .u64 p.f1) ∧ W'.cell? ⟨g1, 0, none⟩ = some (.int .i64 p.f0))
                    ((first | (refine HK5.out _ ?_; (first | exact HBq.out | exact below_drew (Below.refl _ _) | exact Below.refl _ _)) | go_keep))
                    ((go_at_call 31; (with_reducible refine (lottery_sum.calls s.f0 s.f1 s.f2 sm _ HSm.out ?gl).mono ?_); (case gl => exact HG.out.below (below_drew HB5.out)); rintro e w5 ⟨rfl, hd⟩; have HBq := Aside0.mk (below_step (below_drew (Below.refl W.heap.size W)) hd); obtain ⟨⟨q0, q1, q2⟩, q3, q4⟩ := HK5.out _ HBq.out; clear hd))
                  have HMb7 := Aside0.mk (HMb5.out.kept HBq.out)
                  have HMc7 := Aside0.mk (HMc5.out.kept HBq.out)
                  have HB7 := Aside0.mk (below_step HB5.out HBq.out)
                  clear HMb5 HMc5 HB5 y0 y1 s0 s1 s2 HK5
                  go_wp2_with ((at_mapUpdate; refine wpList_store rfl (.tmp 122) (.tmp 124) (.const (.bool true)) 72 rfl 3 4 keyInt Tryd.underlying72 Bc nc (intF Value.bool (setI (cheatsL (l.take i) op need))) rfl HMc7.out (.int .i64 p.f0) (.bool true) (.int .i64 p.f0) rfl rfl HKy.out ?_; intro w6 hm6 hg6; have HB6 := Aside0.mk (HB7.out.grown hg6 HB7.out.size (by rintro k h; cases h; exact hBc)); have HMc6 := Aside0.mk hm6; have HMb6 := Aside0.mk (HMb7.out.grown hg6 (by intro h; injection h with h; omega)); clear hm6 hg6))
                  go_roundg (l.length - (i + 1))
                  case measure => have := HI.out; omega
                  case rel => exact ⟨i + 1, by go_num, by rw [HSe.out], by rw [HRt'.out]; try go_num, ⟨by omega, rfl⟩, HMb6, ⟨⟨_, by rw [HCh'.out, ← setI_put, ← intF_put]; exact HMc6.out⟩⟩, HB6⟩
              · rw [decide_eq_true hn] at HCh
                have e2 : (s.f1 != v) = true := bne_iff_ne.2 hn
                clear hn
                cases sd with
                | true =>
                  have HRt' : Aside0 (rightN (l.take (i + 1)) op = rightN (l.take i) op + 1) := ⟨HRt.out⟩
                  have HCh' : Aside0 (cheatsL (l.take (i + 1)) op need = cheatsL (l.take i) op need ++ [(rd_T31 l (i : Int)).f0]) := ⟨HCh.out⟩
                  clear HRt HCh
                  generalize rd_T31 l (i : Int) = p at *
                  go_upto_region 19 with (first
                    | (go_at_call 39; (with_reducible refine (lottery_value.calls Kv p.f0 p.f1 Ap cp p.f2 (need : Int) v true _ ?s1 HCp.out HKv.out).mono ?_); (case s1 => exact Kd.C_alloc (Kd.C_below HKp.out HB.out) _); rintro e w3 ⟨rfl, hd⟩; have BX := Aside0.mk (blk_below (blk_new wr (.cells #[.int .i64 p.f0, .int .u64 p.f1, .slice Ap p.f2.length cp] 31)) hd); have z0 : w3.cell? ⟨wr.heap.size, 0, none⟩ = some (.int .i64 p.f0) := (blk_cell BX.out 0).trans rfl; have z1 : w3.cell? ⟨wr.heap.size, 1, none⟩ = some (.int .u64 p.f1) := (blk_cell BX.out 1).trans rfl; have HMb3 := Aside0.mk ((HMb.out.alloc _).kept hd); have HMc3 := Aside0.mk ((HM2.out.alloc _).kept hd); have HB3 := Aside0.mk (below_step (below_alloc HB.out _) hd); clear hd)
                    | (go_at_call 40; (with_reducible refine (plus_calls (seedF (l.take i) need) v _ HRs.out HRv.out rfl _).mono ?_); rintro e w4 ⟨rfl, hd⟩; have hb := hd.below; have BX4 := Aside0.mk (blk_below BX.out hb); have z0' : w4.cell? ⟨wr.heap.size, 0, none⟩ = some (.int .i64 p.f0) := (blk_cell BX4.out 0).trans rfl; have z1' : w4.cell? ⟨wr.heap.size, 1, none⟩ = some (.int .u64 p.f1) := (blk_cell BX4.out 1).trans rfl; have HMb4 := Aside0.mk (HMb3.out.kept hb); have HMc4 := Aside0.mk (HMc3.out.kept hb); have HB4 := Aside0.mk (below_step HB3.out hb); clear hd hb z0 z1)
                    | (at_lookup; refine wpList_look rfl (.tmp 90) (.tmp 92) 76 true rfl 3 23 keyInt Tryd.underlying76 (enc23 z23) zero23 B n0 (intF enc23 (byF op)) rfl HMb4.out (.int .i64 p.f0) (.int .i64 p.f0) rfl HKy.out (some (enc23 s)) HBy.out ?_; simp only [looked_true, Option.getD_some, Option.isSome_some, enc23]))
                  have HMb5 := Aside0.mk (HMb4.out.alloc (.cells #[.int .i64 s.f0, .int .i64 s.f1, .int .i64 s.f2] 23))
                  have HMc5 := Aside0.mk (HMc4.out.alloc (.cells #[.int .i64 s.f0, .int .i64 s.f1, .int .i64 s.f2] 23))
                  have HB5 := Aside0.mk (below_alloc HB4.out (.cells #[.int .i64 s.f0, .int .i64 s.f1, .int .i64 s.f2] 23))
                  have BS := Aside0.mk (blk_new w4 (.cells #[.int .i64 s.f0, .int .i64 s.f1, .int .i64 s.f2] 23))
                  have BP := Aside0.mk (blk_alloc BX4.out (.cells #[.int .i64 s.f0, .int .i64 s.f1, .int .i64 s.f2] 23))
                  have y0 : (w4.alloc (.cells #[.int .i64 s.f0, .int .i64 s.f1, .int .i64 s.f2] 23)).cell? ⟨wr.heap.size, 0, none⟩ = some (.int .i64 p.f0) := (blk_cell BP.out 0).trans rfl
                  have y1 : (w4.alloc (.cells #[.int .i64 s.f0, .int .i64 s.f1, .int .i64 s.f2] 23)).cell? ⟨wr.heap.size, 1, none⟩ = some (.int .u64 p.f1) := (blk_cell BP.out 1).trans rfl
                  have s0 : (w4.alloc (.cells #[.int .i64 s.f0, .int .i64 s.f1, .int .i64 s.f2] 23)).cell? ⟨w4.heap.size, 0, none⟩ = some (.int .i64 s.f0) := (blk_cell BS.out 0).trans rfl
                  have s1 : (w4.alloc (.cells #[.int .i64 s.f0, .int .i64 s.f1, .int .i64 s.f2] 23)).cell? ⟨w4.heap.size, 1, none⟩ = some (.int .i64 s.f1) := (blk_cell BS.out 1).trans rfl
                  have s2 : (w4.alloc (.cells #[.int .i64 s.f0, .int .i64 s.f1, .int .i64 s.f2] 23)).cell? ⟨w4.heap.size, 2, none⟩ = some (.int .i64 s.f2) := (blk_cell BS.out 2).trans rfl
                  clear HMb4 HMc4 HB4 HMb3 HMc3 HB3 z0' z1' x0 x1 x2 BX BX4
                  generalize (w4.alloc (.cells #[.int .i64 s.f0, .int .i64 s.f1, .int .i64 s.f2] 23)) = W at *
                  generalize w4.heap.size = g2 at *
                  generalize wr.heap.size = g1 at *
                  have HK5 : Aside0 (∀ W', Below W.heap.size W W' → (W'.cell? ⟨g2, 0, none⟩ = some (.int .i64 s.f0) ∧ W'.cell? ⟨g2, 1, none⟩ = some (.int .i64 s.f1) ∧ W'.cell? ⟨g2, 2, none⟩ = some (.int .i64 s.f2)) ∧ W'.cell? ⟨g1, 1, none⟩ = some (.int .u64 p.f1) ∧ W'.cell? ⟨g1, 0, none⟩ = some (.int .i64 p.f0)) := ⟨fun W' hb => ⟨⟨cell_on hb s0, cell_on hb s1, cell_on hb s2⟩, cell_on hb y1, cell_on hb y0⟩⟩
                  go_region_held3 (fun W' => (W'.cell? ⟨g2, 0, none⟩ = some (.int .i64 s.f0) ∧ W'.cell? ⟨g2, 1, none⟩ = some (.int .i64 s.f1) ∧ W'.cell? ⟨g2, 2, none⟩ = some (.int .i64 s.f2)) ∧ W'.cell? ⟨g1, 1, none⟩ = some (.int .u64 p.f1) ∧ W'.cell? ⟨g1, 0, none⟩ = some (.int .i64 p.f0))
                    ((first | (refine HK5.out _ ?_; (first | exact HBq.out | exact below_drew (Below.refl _ _) | exact Below.refl _ _)) | go_keep))
                    ((go_at_call 31; (with_reducible refine (lottery_sum.calls s.f0 s.f1 s.f2 sm _ HSm.out ?gl).mono ?_); (case gl => exact HG.out.below (below_drew HB5.out)); rintro e w5 ⟨rfl, hd⟩; have HBq := Aside0.mk (below_step (below_drew (Below.refl W.heap.size W)) hd); obtain ⟨⟨q0, q1, q2⟩, q3, q4⟩ := HK5.out _ HBq.out; clear hd))
                  have HMb7 := Aside0.mk (HMb5.out.kept HBq.out)
                  have HMc7 := Aside0.mk (HMc5.out.kept HBq.out)
                  have HB7 := Aside0.mk (below_step HB5.out HBq.out)
                  clear HMb5 HMc5 HB5 y0 y1 s0 s1 s2 HK5
                  go_wp2_with ((at_mapUpdate; refine wpList_store rfl (.tmp 122) (.tmp 124) (.const (.bool true)) 72 rfl 3 4 keyInt Tryd.underlying72 Bc nc (intF Value.bool (setI (cheatsL (l.take i) op need))) rfl HMc7.out (.int .i64 p.f0) (.bool true) (.int .i64 p.f0) rfl rfl HKy.out ?_; intro w6 hm6 hg6; have HB6 := Aside0.mk (HB7.out.grown hg6 HB7.out.size (by rintro k h; cases h; exact hBc)); have HMc6 := Aside0.mk hm6; have HMb6 := Aside0.mk (HMb7.out.grown hg6 (by intro h; injection h with h; omega)); clear hm6 hg6))
                  go_roundg (l.length - (i + 1))
                  case measure => have := HI.out; omega
                  case rel => exact ⟨i + 1, by go_num, by rw [HSe.out], by rw [HRt'.out]; try go_num, ⟨by omega, rfl⟩, HMb6, ⟨⟨_, by rw [HCh'.out, ← setI_put, ← intF_put]; exact HMc6.out⟩⟩, HB6⟩
                | false =>
                  have HRt' : Aside0 (rightN (l.take (i + 1)) op = rightN (l.take i) op + 1) := ⟨HRt.out⟩
                  have HCh' : Aside0 (cheatsL (l.take (i + 1)) op need = cheatsL (l.take i) op need ++ [(rd_T31 l (i : Int)).f0]) := ⟨HCh.out⟩
                  clear HRt HCh
                  generalize rd_T31 l (i : Int) = p at *
                  go_upto_region 19 with (first
                    | (go_at_call 39; (with_reducible refine (lottery_value.calls Kv p.f0 p.f1 Ap cp p.f2 (need : Int) v false _ ?s1 HCp.out HKv.out).mono ?_); (case s1 => exact Kd.C_alloc (Kd.C_below HKp.out HB.out) _); rintro e w3 ⟨rfl, hd⟩; have BX := Aside0.mk (blk_below (blk_new wr (.cells #[.int .i64 p.f0, .int .u64 p.f1, .slice Ap p.f2.length cp] 31)) hd); have z0 : w3.cell? ⟨wr.heap.size, 0, none⟩ = some (.int .i64 p.f0) := (blk_cell BX.out 0).trans rfl; have z1 : w3.cell? ⟨wr.heap.size, 1, none⟩ = some (.int .u64 p.f1) := (blk_cell BX.out 1).trans rfl; have HMb3 := Aside0.mk ((HMb.out.alloc _).kept hd); have HMc3 := Aside0.mk ((HM2.out.alloc _).kept hd); have HB3 := Aside0.mk (below_step (below_alloc HB.out _) hd); clear hd)
                    | (go_at_call 40; (with_reducible refine (plus_calls (seedF (l.take i) need) v _ HRs.out HRv.out rfl _).mono ?_); rintro e w4 ⟨rfl, hd⟩; have hb := hd.below; have BX4 := Aside0.mk (blk_below BX.out hb); have z0' : w4.cell? ⟨wr.heap.size, 0, none⟩ = some (.int .i64 p.f0) := (blk_cell BX4.out 0).trans rfl; have z1' : w4.cell? ⟨wr.heap.size, 1, none⟩ = some (.int .u64 p.f1) := (blk_cell BX4.out 1).trans rfl; have HMb4 := Aside0.mk (HMb3.out.kept hb); have HMc4 := Aside0.mk (HMc3.out.kept hb); have HB4 := Aside0.mk (below_step HB3.out hb); clear hd hb z0 z1)
                    | (at_lookup; refine wpList_look rfl (.tmp 90) (.tmp 92) 76 true rfl 3 23 keyInt Tryd.underlying76 (enc23 z23) zero23 B n0 (intF enc23 (byF op)) rfl HMb4.out (.int .i64 p.f0) (.int .i64 p.f0) rfl HKy.out (some (enc23 s)) HBy.out ?_; simp only [looked_true, Option.getD_some, Option.isSome_some, enc23]))
                  have HMb5 := Aside0.mk (HMb4.out.alloc (.cells #[.int .i64 s.f0, .int .i64 s.f1, .int .i64 s.f2] 23))
                  have HMc5 := Aside0.mk (HMc4.out.alloc (.cells #[.int .i64 s.f0, .int .i64 s.f1, .int .i64 s.f2] 23))
                  have HB5 := Aside0.mk (below_alloc HB4.out (.cells #[.int .i64 s.f0, .int .i64 s.f1, .int .i64 s.f2] 23))
                  have BS := Aside0.mk (blk_new w4 (.cells #[.int .i64 s.f0, .int .i64 s.f1, .int .i64 s.f2] 23))
                  have BP := Aside0.mk (blk_alloc BX4.out (.cells #[.int .i64 s.f0, .int .i64 s.f1, .int .i64 s.f2] 23))
                  have y0 : (w4.alloc (.cells #[.int .i64 s.f0, .int .i64 s.f1, .int .i64 s.f2] 23)).cell? ⟨wr.heap.size, 0, none⟩ = some (.int .i64 p.f0) := (blk_cell BP.out 0).trans rfl
                  have y1 : (w4.alloc (.cells #[.int .i64 s.f0, .int .i64 s.f1, .int .i64 s.f2] 23)).cell? ⟨wr.heap.size, 1, none⟩ = some (.int .u64 p.f1) := (blk_cell BP.out 1).trans rfl
                  have s0 : (w4.alloc (.cells #[.int .i64 s.f0, .int .i64 s.f1, .int .i64 s.f2] 23)).cell? ⟨w4.heap.size, 0, none⟩ = some (.int .i64 s.f0) := (blk_cell BS.out 0).trans rfl
                  have s1 : (w4.alloc (.cells #[.int .i64 s.f0, .int .i64 s.f1, .int .i64 s.f2] 23)).cell? ⟨w4.heap.size, 1, none⟩ = some (.int .i64 s.f1) := (blk_cell BS.out 1).trans rfl
                  have s2 : (w4.alloc (.cells #[.int .i64 s.f0, .int .i64 s.f1, .int .i64 s.f2] 23)).cell? ⟨w4.heap.size, 2, none⟩ = some (.int .i64 s.f2) := (blk_cell BS.out 2).trans rfl
                  clear HMb4 HMc4 HB4 HMb3 HMc3 HB3 z0' z1' x0 x1 x2 BX BX4
                  generalize (w4.alloc (.cells #[.int .i64 s.f0, .int .i64 s.f1, .int .i64 s.f2] 23)) = W at *
                  generalize w4.heap.size = g2 at *
                  generalize wr.heap.size = g1 at *
                  have HK5 : Aside0 (∀ W', Below W.heap.size W W' → (W'.cell? ⟨g2, 0, none⟩ = some (.int .i64 s.f0) ∧ W'.cell? ⟨g2, 1, none⟩ = some (.int .i64 s.f1) ∧ W'.cell? ⟨g2, 2, none⟩ = some (.int .i64 s.f2)) ∧ W'.cell? ⟨g1, 1, none⟩ = some (.int .u64 p.f1) ∧ W'.cell? ⟨g1, 0, none⟩ = some (.int .i64 p.f0)) := ⟨fun W' hb => ⟨⟨cell_on hb s0, cell_on hb s1, cell_on hb s2⟩, cell_on hb y1, cell_on hb y0⟩⟩
                  go_region_held3 (fun W' => (W'.cell? ⟨g2, 0, none⟩ = some (.int .i64 s.f0) ∧ W'.cell? ⟨g2, 1, none⟩ = some (.int .i64 s.f1) ∧ W'.cell? ⟨g2, 2, none⟩ = some (.int .i64 s.f2)) ∧ W'.cell? ⟨g1, 1, none⟩ = some (.int .u64 p.f1) ∧ W'.cell? ⟨g1, 0, none⟩ = some (.int .i64 p.f0))
                    ((first | (refine HK5.out _ ?_; (first | exact HBq.out | exact below_drew (Below.refl _ _) | exact Below.refl _ _)) | go_keep))
                    ((go_at_call 31; (with_reducible refine (lottery_sum.calls s.f0 s.f1 s.f2 sm _ HSm.out ?gl).mono ?_); (case gl => exact HG.out.below (below_drew HB5.out)); rintro e w5 ⟨rfl, hd⟩; have HBq := Aside0.mk (below_step (below_drew (Below.refl W.heap.size W)) hd); obtain ⟨⟨q0, q1, q2⟩, q3, q4⟩ := HK5.out _ HBq.out; clear hd))
                  have HMb7 := Aside0.mk (HMb5.out.kept HBq.out)
                  have HMc7 := Aside0.mk (HMc5.out.kept HBq.out)
                  have HB7 := Aside0.mk (below_step HB5.out HBq.out)
                  clear HMb5 HMc5 HB5 y0 y1 s0 s1 s2 HK5
                  go_wp2_with ((at_mapUpdate; refine wpList_store rfl (.tmp 122) (.tmp 124) (.const (.bool true)) 72 rfl 3 4 keyInt Tryd.underlying72 Bc nc (intF Value.bool (setI (cheatsL (l.take i) op need))) rfl HMc7.out (.int .i64 p.f0) (.bool true) (.int .i64 p.f0) rfl rfl HKy.out ?_; intro w6 hm6 hg6; have HB6 := Aside0.mk (HB7.out.grown hg6 HB7.out.size (by rintro k h; cases h; exact hBc)); have HMc6 := Aside0.mk hm6; have HMb6 := Aside0.mk (HMb7.out.grown hg6 (by intro h; injection h with h; omega)); clear hm6 hg6))
                  go_roundg (l.length - (i + 1))
                  case measure => have := HI.out; omega
                  case rel => exact ⟨i + 1, by go_num, by rw [HSe.out], by rw [HRt'.out]; try go_num, ⟨by omega, rfl⟩, HMb6, ⟨⟨_, by rw [HCh'.out, ← setI_put, ← intF_put]; exact HMc6.out⟩⟩, HB6⟩
            · rw [decide_eq_false hf] at HRt HCh
              have e1 : (sm == (rd_T31 l (i : Int)).f1) = false := beq_eq_false_iff_ne.2 hf
              clear hf
              by_cases hn : s.f1 = v
              · rw [decide_eq_false (fun h => h hn)] at HCh
                have e2 : (s.f1 != v) = false := by rw [hn]; simp
                clear hn
                cases sd with
                | true =>
                  have HRt' : Aside0 (rightN (l.take (i + 1)) op = rightN (l.take i) op) := ⟨HRt.out⟩
                  have HCh' : Aside0 (cheatsL (l.take (i + 1)) op need = cheatsL (l.take i) op need ++ [(rd_T31 l (i : Int)).f0]) := ⟨HCh.out⟩
                  clear HRt HCh
                  generalize rd_T31 l (i : Int) = p at *
                  go_upto_region 19 with (first
                    | (go_at_call 39; (with_reducible refine (lottery_value.calls Kv p.f0 p.f1 Ap cp p.f2 (need : Int) v true _ ?s1 HCp.out HKv.out).mono ?_); (case s1 => exact Kd.C_alloc (Kd.C_below HKp.out HB.out) _); rintro e w3 ⟨rfl, hd⟩; have BX := Aside0.mk (blk_below (blk_new wr (.cells #[.int .i64 p.f0, .int .u64 p.f1, .slice Ap p.f2.length cp] 31)) hd); have z0 : w3.cell? ⟨wr.heap.size, 0, none⟩ = some (.int .i64 p.f0) := (blk_cell BX.out 0).trans rfl; have z1 : w3.cell? ⟨wr.heap.size, 1, none⟩ = some (.int .u64 p.f1) := (blk_cell BX.out 1).trans rfl; have HMb3 := Aside0.mk ((HMb.out.alloc _).kept hd); have HMc3 := Aside0.mk ((HM2.out.alloc _).kept hd); have HB3 := Aside0.mk (below_step (below_alloc HB.out _) hd); clear hd)
                    | (go_at_call 40; (with_reducible refine (plus_calls (seedF (l.take i) need) v _ HRs.out HRv.out rfl _).mono ?_); rintro e w4 ⟨rfl, hd⟩; have hb := hd.below; have BX4 := Aside0.mk (blk_below BX.out hb); have z0' : w4.cell? ⟨wr.heap.size, 0, none⟩ = some (.int .i64 p.f0) := (blk_cell BX4.out 0).trans rfl; have z1' : w4.cell? ⟨wr.heap.size, 1, none⟩ = some (.int .u64 p.f1) := (blk_cell BX4.out 1).trans rfl; have HMb4 := Aside0.mk (HMb3.out.kept hb); have HMc4 := Aside0.mk (HMc3.out.kept hb); have HB4 := Aside0.mk (below_step HB3.out hb); clear hd hb z0 z1)
                    | (at_lookup; refine wpList_look rfl (.tmp 90) (.tmp 92) 76 true rfl 3 23 keyInt Tryd.underlying76 (enc23 z23) zero23 B n0 (intF enc23 (byF op)) rfl HMb4.out (.int .i64 p.f0) (.int .i64 p.f0) rfl HKy.out (some (enc23 s)) HBy.out ?_; simp only [looked_true, Option.getD_some, Option.isSome_some, enc23]))
                  have HMb5 := Aside0.mk (HMb4.out.alloc (.cells #[.int .i64 s.f0, .int .i64 s.f1, .int .i64 s.f2] 23))
                  have HMc5 := Aside0.mk (HMc4.out.alloc (.cells #[.int .i64 s.f0, .int .i64 s.f1, .int .i64 s.f2] 23))
                  have HB5 := Aside0.mk (below_alloc HB4.out (.cells #[.int .i64 s.f0, .int .i64 s.f1, .int .i64 s.f2] 23))
                  have BS := Aside0.mk (blk_new w4 (.cells #[.int .i64 s.f0, .int .i64 s.f1, .int .i64 s.f2] 23))
                  have BP := Aside0.mk (blk_alloc BX4.out (.cells #[.int .i64 s.f0, .int .i64 s.f1, .int .i64 s.f2] 23))
                  have y0 : (w4.alloc (.cells #[.int .i64 s.f0, .int .i64 s.f1, .int .i64 s.f2] 23)).cell? ⟨wr.heap.size, 0, none⟩ = some (.int .i64 p.f0) := (blk_cell BP.out 0).trans rfl
                  have y1 : (w4.alloc (.cells #[.int .i64 s.f0, .int .i64 s.f1, .int .i64 s.f2] 23)).cell? ⟨wr.heap.size, 1, none⟩ = some (.int .u64 p.f1) := (blk_cell BP.out 1).trans rfl
                  have s0 : (w4.alloc (.cells #[.int .i64 s.f0, .int .i64 s.f1, .int .i64 s.f2] 23)).cell? ⟨w4.heap.size, 0, none⟩ = some (.int .i64 s.f0) := (blk_cell BS.out 0).trans rfl
                  have s1 : (w4.alloc (.cells #[.int .i64 s.f0, .int .i64 s.f1, .int .i64 s.f2] 23)).cell? ⟨w4.heap.size, 1, none⟩ = some (.int .i64 s.f1) := (blk_cell BS.out 1).trans rfl
                  have s2 : (w4.alloc (.cells #[.int .i64 s.f0, .int .i64 s.f1, .int .i64 s.f2] 23)).cell? ⟨w4.heap.size, 2, none⟩ = some (.int .i64 s.f2) := (blk_cell BS.out 2).trans rfl
                  clear HMb4 HMc4 HB4 HMb3 HMc3 HB3 z0' z1' x0 x1 x2 BX BX4
                  generalize (w4.alloc (.cells #[.int .i64 s.f0, .int .i64 s.f1, .int .i64 s.f2] 23)) = W at *
                  generalize w4.heap.size = g2 at *
                  generalize wr.heap.size = g1 at *
                  have HK5 : Aside0 (∀ W', Below W.heap.size W W' → (W'.cell? ⟨g2, 0, none⟩ = some (.int .i64 s.f0) ∧ W'.cell? ⟨g2, 1, none⟩ = some (.int .i64 s.f1) ∧ W'.cell? ⟨g2, 2, none⟩ = some (.int .i64 s.f2)) ∧ W'.cell? ⟨g1, 1, none⟩ = some (.int .u64 p.f1) ∧ W'.cell? ⟨g1, 0, none⟩ = some (.int .i64 p.f0)) := ⟨fun W' hb => ⟨⟨cell_on hb s0, cell_on hb s1, cell_on hb s2⟩, cell_on hb y1, cell_on hb y0⟩⟩
                  go_region_held3 (fun W' => (W'.cell? ⟨g2, 0, none⟩ = some (.int .i64 s.f0) ∧ W'.cell? ⟨g2, 1, none⟩ = some (.int .i64 s.f1) ∧ W'.cell? ⟨g2, 2, none⟩ = some (.int .i64 s.f2)) ∧ W'.cell? ⟨g1, 1, none⟩ = some (.int .u64 p.f1) ∧ W'.cell? ⟨g1, 0, none⟩ = some (.int .i64 p.f0))
                    ((first | (refine HK5.out _ ?_; (first | exact HBq.out | exact below_drew (Below.refl _ _) | exact Below.refl _ _)) | go_keep))
                    ((go_at_call 31; (with_reducible refine (lottery_sum.calls s.f0 s.f1 s.f2 sm _ HSm.out ?gl).mono ?_); (case gl => exact HG.out.below (below_drew HB5.out)); rintro e w5 ⟨rfl, hd⟩; have HBq := Aside0.mk (below_step (below_drew (Below.refl W.heap.size W)) hd); obtain ⟨⟨q0, q1, q2⟩, q3, q4⟩ := HK5.out _ HBq.out; clear hd))
                  have HMb7 := Aside0.mk (HMb5.out.kept HBq.out)
                  have HMc7 := Aside0.mk (HMc5.out.kept HBq.out)
                  have HB7 := Aside0.mk (below_step HB5.out HBq.out)
                  clear HMb5 HMc5 HB5 y0 y1 s0 s1 s2 HK5
                  go_wp2_with ((at_mapUpdate; refine wpList_store rfl (.tmp 122) (.tmp 124) (.const (.bool true)) 72 rfl 3 4 keyInt Tryd.underlying72 Bc nc (intF Value.bool (setI (cheatsL (l.take i) op need))) rfl HMc7.out (.int .i64 p.f0) (.bool true) (.int .i64 p.f0) rfl rfl HKy.out ?_; intro w6 hm6 hg6; have HB6 := Aside0.mk (HB7.out.grown hg6 HB7.out.size (by rintro k h; cases h; exact hBc)); have HMc6 := Aside0.mk hm6; have HMb6 := Aside0.mk (HMb7.out.grown hg6 (by intro h; injection h with h; omega)); clear hm6 hg6))
                  go_roundg (l.length - (i + 1))
                  case measure => have := HI.out; omega
                  case rel => exact ⟨i + 1, by go_num, by rw [HSe.out], by rw [HRt'.out]; try go_num, ⟨by omega, rfl⟩, HMb6, ⟨⟨_, by rw [HCh'.out, ← setI_put, ← intF_put]; exact HMc6.out⟩⟩, HB6⟩
                | false =>
                  have HRt' : Aside0 (rightN (l.take (i + 1)) op = rightN (l.take i) op) := ⟨HRt.out⟩
                  have HCh' : Aside0 (cheatsL (l.take (i + 1)) op need = cheatsL (l.take i) op need ++ [(rd_T31 l (i : Int)).f0]) := ⟨HCh.out⟩
                  clear HRt HCh
                  generalize rd_T31 l (i : Int) = p at *
                  go_upto_region 19 with (first
                    | (go_at_call 39; (with_reducible refine (lottery_value.calls Kv p.f0 p.f1 Ap cp p.f2 (need : Int) v false _ ?s1 HCp.out HKv.out).mono ?_); (case s1 => exact Kd.C_alloc (Kd.C_below HKp.out HB.out) _); rintro e w3 ⟨rfl, hd⟩; have BX := Aside0.mk (blk_below (blk_new wr (.cells #[.int .i64 p.f0, .int .u64 p.f1, .slice Ap p.f2.length cp] 31)) hd); have z0 : w3.cell? ⟨wr.heap.size, 0, none⟩ = some (.int .i64 p.f0) := (blk_cell BX.out 0).trans rfl; have z1 : w3.cell? ⟨wr.heap.size, 1, none⟩ = some (.int .u64 p.f1) := (blk_cell BX.out 1).trans rfl; have HMb3 := Aside0.mk ((HMb.out.alloc _).kept hd); have HMc3 := Aside0.mk ((HM2.out.alloc _).kept hd); have HB3 := Aside0.mk (below_step (below_alloc HB.out _) hd); clear hd)
                    | (go_at_call 40; (with_reducible refine (plus_calls (seedF (l.take i) need) v _ HRs.out HRv.out rfl _).mono ?_); rintro e w4 ⟨rfl, hd⟩; have hb := hd.below; have BX4 := Aside0.mk (blk_below BX.out hb); have z0' : w4.cell? ⟨wr.heap.size, 0, none⟩ = some (.int .i64 p.f0) := (blk_cell BX4.out 0).trans rfl; have z1' : w4.cell? ⟨wr.heap.size, 1, none⟩ = some (.int .u64 p.f1) := (blk_cell BX4.out 1).trans rfl; have HMb4 := Aside0.mk (HMb3.out.kept hb); have HMc4 := Aside0.mk (HMc3.out.kept hb); have HB4 := Aside0.mk (below_step HB3.out hb); clear hd hb z0 z1)
                    | (at_lookup; refine wpList_look rfl (.tmp 90) (.tmp 92) 76 true rfl 3 23 keyInt Tryd.underlying76 (enc23 z23) zero23 B n0 (intF enc23 (byF op)) rfl HMb4.out (.int .i64 p.f0) (.int .i64 p.f0) rfl HKy.out (some (enc23 s)) HBy.out ?_; simp only [looked_true, Option.getD_some, Option.isSome_some, enc23]))
                  have HMb5 := Aside0.mk (HMb4.out.alloc (.cells #[.int .i64 s.f0, .int .i64 s.f1, .int .i64 s.f2] 23))
                  have HMc5 := Aside0.mk (HMc4.out.alloc (.cells #[.int .i64 s.f0, .int .i64 s.f1, .int .i64 s.f2] 23))
                  have HB5 := Aside0.mk (below_alloc HB4.out (.cells #[.int .i64 s.f0, .int .i64 s.f1, .int .i64 s.f2] 23))
                  have BS := Aside0.mk (blk_new w4 (.cells #[.int .i64 s.f0, .int .i64 s.f1, .int .i64 s.f2] 23))
                  have BP := Aside0.mk (blk_alloc BX4.out (.cells #[.int .i64 s.f0, .int .i64 s.f1, .int .i64 s.f2] 23))
                  have y0 : (w4.alloc (.cells #[.int .i64 s.f0, .int .i64 s.f1, .int .i64 s.f2] 23)).cell? ⟨wr.heap.size, 0, none⟩ = some (.int .i64 p.f0) := (blk_cell BP.out 0).trans rfl
                  have y1 : (w4.alloc (.cells #[.int .i64 s.f0, .int .i64 s.f1, .int .i64 s.f2] 23)).cell? ⟨wr.heap.size, 1, none⟩ = some (.int .u64 p.f1) := (blk_cell BP.out 1).trans rfl
                  have s0 : (w4.alloc (.cells #[.int .i64 s.f0, .int .i64 s.f1, .int .i64 s.f2] 23)).cell? ⟨w4.heap.size, 0, none⟩ = some (.int .i64 s.f0) := (blk_cell BS.out 0).trans rfl
                  have s1 : (w4.alloc (.cells #[.int .i64 s.f0, .int .i64 s.f1, .int .i64 s.f2] 23)).cell? ⟨w4.heap.size, 1, none⟩ = some (.int .i64 s.f1) := (blk_cell BS.out 1).trans rfl
                  have s2 : (w4.alloc (.cells #[.int .i64 s.f0, .int .i64 s.f1, .int .i64 s.f2] 23)).cell? ⟨w4.heap.size, 2, none⟩ = some (.int .i64 s.f2) := (blk_cell BS.out 2).trans rfl
                  clear HMb4 HMc4 HB4 HMb3 HMc3 HB3 z0' z1' x0 x1 x2 BX BX4
                  generalize (w4.alloc (.cells #[.int .i64 s.f0, .int .i64 s.f1, .int .i64 s.f2] 23)) = W at *
                  generalize w4.heap.size = g2 at *
                  generalize wr.heap.size = g1 at *
                  have HK5 : Aside0 (∀ W', Below W.heap.size W W' → (W'.cell? ⟨g2, 0, none⟩ = some (.int .i64 s.f0) ∧ W'.cell? ⟨g2, 1, none⟩ = some (.int .i64 s.f1) ∧ W'.cell? ⟨g2, 2, none⟩ = some (.int .i64 s.f2)) ∧ W'.cell? ⟨g1, 1, none⟩ = some (.int .u64 p.f1) ∧ W'.cell? ⟨g1, 0, none⟩ = some (.int .i64 p.f0)) := ⟨fun W' hb => ⟨⟨cell_on hb s0, cell_on hb s1, cell_on hb s2⟩, cell_on hb y1, cell_on hb y0⟩⟩
                  go_region_held3 (fun W' => (W'.cell? ⟨g2, 0, none⟩ = some (.int .i64 s.f0) ∧ W'.cell? ⟨g2, 1, none⟩ = some (.int .i64 s.f1) ∧ W'.cell? ⟨g2, 2, none⟩ = some (.int .i64 s.f2)) ∧ W'.cell? ⟨g1, 1, none⟩ = some (.int .u64 p.f1) ∧ W'.cell? ⟨g1, 0, none⟩ = some (.int .i64 p.f0))
                    ((first | (refine HK5.out _ ?_; (first | exact HBq.out | exact below_drew (Below.refl _ _) | exact Below.refl _ _)) | go_keep))
                    ((go_at_call 31; (with_reducible refine (lottery_sum.calls s.f0 s.f1 s.f2 sm _ HSm.out ?gl).mono ?_); (case gl => exact HG.out.below (below_drew HB5.out)); rintro e w5 ⟨rfl, hd⟩; have HBq := Aside0.mk (below_step (below_drew (Below.refl W.heap.size W)) hd); obtain ⟨⟨q0, q1, q2⟩, q3, q4⟩ := HK5.out _ HBq.out; clear hd))
                  have HMb7 := Aside0.mk (HMb5.out.kept HBq.out)
                  have HMc7 := Aside0.mk (HMc5.out.kept HBq.out)
                  have HB7 := Aside0.mk (below_step HB5.out HBq.out)
                  clear HMb5 HMc5 HB5 y0 y1 s0 s1 s2 HK5
                  go_wp2_with ((at_mapUpdate; refine wpList_store rfl (.tmp 122) (.tmp 124) (.const (.bool true)) 72 rfl 3 4 keyInt Tryd.underlying72 Bc nc (intF Value.bool (setI (cheatsL (l.take i) op need))) rfl HMc7.out (.int .i64 p.f0) (.bool true) (.int .i64 p.f0) rfl rfl HKy.out ?_; intro w6 hm6 hg6; have HB6 := Aside0.mk (HB7.out.grown hg6 HB7.out.size (by rintro k h; cases h; exact hBc)); have HMc6 := Aside0.mk hm6; have HMb6 := Aside0.mk (HMb7.out.grown hg6 (by intro h; injection h with h; omega)); clear hm6 hg6))
                  go_roundg (l.length - (i + 1))
                  case measure => have := HI.out; omega
                  case rel => exact ⟨i + 1, by go_num, by rw [HSe.out], by rw [HRt'.out]; try go_num, ⟨by omega, rfl⟩, HMb6, ⟨⟨_, by rw [HCh'.out, ← setI_put, ← intF_put]; exact HMc6.out⟩⟩, HB6⟩
              · rw [decide_eq_true hn] at HCh
                have e2 : (s.f1 != v) = true := bne_iff_ne.2 hn
                clear hn
                cases sd with
                | true =>
                  have HRt' : Aside0 (rightN (l.take (i + 1)) op = rightN (l.take i) op) := ⟨HRt.out⟩
                  have HCh' : Aside0 (cheatsL (l.take (i + 1)) op need = cheatsL (l.take i) op need ++ [(rd_T31 l (i : Int)).f0]) := ⟨HCh.out⟩
                  clear HRt HCh
                  generalize rd_T31 l (i : Int) = p at *
                  go_upto_region 19 with (first
                    | (go_at_call 39; (with_reducible refine (lottery_value.calls Kv p.f0 p.f1 Ap cp p.f2 (need : Int) v true _ ?s1 HCp.out HKv.out).mono ?_); (case s1 => exact Kd.C_alloc (Kd.C_below HKp.out HB.out) _); rintro e w3 ⟨rfl, hd⟩; have BX := Aside0.mk (blk_below (blk_new wr (.cells #[.int .i64 p.f0, .int .u64 p.f1, .slice Ap p.f2.length cp] 31)) hd); have z0 : w3.cell? ⟨wr.heap.size, 0, none⟩ = some (.int .i64 p.f0) := (blk_cell BX.out 0).trans rfl; have z1 : w3.cell? ⟨wr.heap.size, 1, none⟩ = some (.int .u64 p.f1) := (blk_cell BX.out 1).trans rfl; have HMb3 := Aside0.mk ((HMb.out.alloc _).kept hd); have HMc3 := Aside0.mk ((HM2.out.alloc _).kept hd); have HB3 := Aside0.mk (below_step (below_alloc HB.out _) hd); clear hd)
                    | (go_at_call 40; (with_reducible refine (plus_calls (seedF (l.take i) need) v _ HRs.out HRv.out rfl _).mono ?_); rintro e w4 ⟨rfl, hd⟩; have hb := hd.below; have BX4 := Aside0.mk (blk_below BX.out hb); have z0' : w4.cell? ⟨wr.heap.size, 0, none⟩ = some (.int .i64 p.f0) := (blk_cell BX4.out 0).trans rfl; have z1' : w4.cell? ⟨wr.heap.size, 1, none⟩ = some (.int .u64 p.f1) := (blk_cell BX4.out 1).trans rfl; have HMb4 := Aside0.mk (HMb3.out.kept hb); have HMc4 := Aside0.mk (HMc3.out.kept hb); have HB4 := Aside0.mk (below_step HB3.out hb); clear hd hb z0 z1)
                    | (at_lookup; refine wpList_look rfl (.tmp 90) (.tmp 92) 76 true rfl 3 23 keyInt Tryd.underlying76 (enc23 z23) zero23 B n0 (intF enc23 (byF op)) rfl HMb4.out (.int .i64 p.f0) (.int .i64 p.f0) rfl HKy.out (some (enc23 s)) HBy.out ?_; simp only [looked_true, Option.getD_some, Option.isSome_some, enc23]))
                  have HMb5 := Aside0.mk (HMb4.out.alloc (.cells #[.int .i64 s.f0, .int .i64 s.f1, .int .i64 s.f2] 23))
                  have HMc5 := Aside0.mk (HMc4.out.alloc (.cells #[.int .i64 s.f0, .int .i64 s.f1, .int .i64 s.f2] 23))
                  have HB5 := Aside0.mk (below_alloc HB4.out (.cells #[.int .i64 s.f0, .int .i64 s.f1, .int .i64 s.f2] 23))
                  have BS := Aside0.mk (blk_new w4 (.cells #[.int .i64 s.f0, .int .i64 s.f1, .int .i64 s.f2] 23))
                  have BP := Aside0.mk (blk_alloc BX4.out (.cells #[.int .i64 s.f0, .int .i64 s.f1, .int .i64 s.f2] 23))
                  have y0 : (w4.alloc (.cells #[.int .i64 s.f0, .int .i64 s.f1, .int .i64 s.f2] 23)).cell? ⟨wr.heap.size, 0, none⟩ = some (.int .i64 p.f0) := (blk_cell BP.out 0).trans rfl
                  have y1 : (w4.alloc (.cells #[.int .i64 s.f0, .int .i64 s.f1, .int .i64 s.f2] 23)).cell? ⟨wr.heap.size, 1, none⟩ = some (.int .u64 p.f1) := (blk_cell BP.out 1).trans rfl
                  have s0 : (w4.alloc (.cells #[.int .i64 s.f0, .int .i64 s.f1, .int .i64 s.f2] 23)).cell? ⟨w4.heap.size, 0, none⟩ = some (.int .i64 s.f0) := (blk_cell BS.out 0).trans rfl
                  have s1 : (w4.alloc (.cells #[.int .i64 s.f0, .int .i64 s.f1, .int .i64 s.f2] 23)).cell? ⟨w4.heap.size, 1, none⟩ = some (.int .i64 s.f1) := (blk_cell BS.out 1).trans rfl
                  have s2 : (w4.alloc (.cells #[.int .i64 s.f0, .int .i64 s.f1, .int .i64 s.f2] 23)).cell? ⟨w4.heap.size, 2, none⟩ = some (.int .i64 s.f2) := (blk_cell BS.out 2).trans rfl
                  clear HMb4 HMc4 HB4 HMb3 HMc3 HB3 z0' z1' x0 x1 x2 BX BX4
                  generalize (w4.alloc (.cells #[.int .i64 s.f0, .int .i64 s.f1, .int .i64 s.f2] 23)) = W at *
                  generalize w4.heap.size = g2 at *
                  generalize wr.heap.size = g1 at *
                  have HK5 : Aside0 (∀ W', Below W.heap.size W W' → (W'.cell? ⟨g2, 0, none⟩ = some (.int .i64 s.f0) ∧ W'.cell? ⟨g2, 1, none⟩ = some (.int .i64 s.f1) ∧ W'.cell? ⟨g2, 2, none⟩ = some (.int .i64 s.f2)) ∧ W'.cell? ⟨g1, 1, none⟩ = some (.int .u64 p.f1) ∧ W'.cell? ⟨g1, 0, none⟩ = some (.int .i64 p.f0)) := ⟨fun W' hb => ⟨⟨cell_on hb s0, cell_on hb s1, cell_on hb s2⟩, cell_on hb y1, cell_on hb y0⟩⟩
                  go_region_held3 (fun W' => (W'.cell? ⟨g2, 0, none⟩ = some (.int .i64 s.f0) ∧ W'.cell? ⟨g2, 1, none⟩ = some (.int .i64 s.f1) ∧ W'.cell? ⟨g2, 2, none⟩ = some (.int .i64 s.f2)) ∧ W'.cell? ⟨g1, 1, none⟩ = some (.int .u64 p.f1) ∧ W'.cell? ⟨g1, 0, none⟩ = some (.int .i64 p.f0))
                    ((first | (refine HK5.out _ ?_; (first | exact HBq.out | exact below_drew (Below.refl _ _) | exact Below.refl _ _)) | go_keep))
                    ((go_at_call 31; (with_reducible refine (lottery_sum.calls s.f0 s.f1 s.f2 sm _ HSm.out ?gl).mono ?_); (case gl => exact HG.out.below (below_drew HB5.out)); rintro e w5 ⟨rfl, hd⟩; have HBq := Aside0.mk (below_step (below_drew (Below.refl W.heap.size W)) hd); obtain ⟨⟨q0, q1, q2⟩, q3, q4⟩ := HK5.out _ HBq.out; clear hd))
                  have HMb7 := Aside0.mk (HMb5.out.kept HBq.out)
                  have HMc7 := Aside0.mk (HMc5.out.kept HBq.out)
                  have HB7 := Aside0.mk (below_step HB5.out HBq.out)
                  clear HMb5 HMc5 HB5 y0 y1 s0 s1 s2 HK5
                  go_wp2_with ((at_mapUpdate; refine wpList_store rfl (.tmp 122) (.tmp 124) (.const (.bool true)) 72 rfl 3 4 keyInt Tryd.underlying72 Bc nc (intF Value.bool (setI (cheatsL (l.take i) op need))) rfl HMc7.out (.int .i64 p.f0) (.bool true) (.int .i64 p.f0) rfl rfl HKy.out ?_; intro w6 hm6 hg6; have HB6 := Aside0.mk (HB7.out.grown hg6 HB7.out.size (by rintro k h; cases h; exact hBc)); have HMc6 := Aside0.mk hm6; have HMb6 := Aside0.mk (HMb7.out.grown hg6 (by intro h; injection h with h; omega)); clear hm6 hg6))
                  go_roundg (l.length - (i + 1))
                  case measure => have := HI.out; omega
                  case rel => exact ⟨i + 1, by go_num, by rw [HSe.out], by rw [HRt'.out]; try go_num, ⟨by omega, rfl⟩, HMb6, ⟨⟨_, by rw [HCh'.out, ← setI_put, ← intF_put]; exact HMc6.out⟩⟩, HB6⟩
                | false =>
                  have HRt' : Aside0 (rightN (l.take (i + 1)) op = rightN (l.take i) op) := ⟨HRt.out⟩
                  have HCh' : Aside0 (cheatsL (l.take (i + 1)) op need = cheatsL (l.take i) op need ++ [(rd_T31 l (i : Int)).f0]) := ⟨HCh.out⟩
                  clear HRt HCh
                  generalize rd_T31 l (i : Int) = p at *
                  go_upto_region 19 with (first
                    | (go_at_call 39; (with_reducible refine (lottery_value.calls Kv p.f0 p.f1 Ap cp p.f2 (need : Int) v false _ ?s1 HCp.out HKv.out).mono ?_); (case s1 => exact Kd.C_alloc (Kd.C_below HKp.out HB.out) _); rintro e w3 ⟨rfl, hd⟩; have BX := Aside0.mk (blk_below (blk_new wr (.cells #[.int .i64 p.f0, .int .u64 p.f1, .slice Ap p.f2.length cp] 31)) hd); have z0 : w3.cell? ⟨wr.heap.size, 0, none⟩ = some (.int .i64 p.f0) := (blk_cell BX.out 0).trans rfl; have z1 : w3.cell? ⟨wr.heap.size, 1, none⟩ = some (.int .u64 p.f1) := (blk_cell BX.out 1).trans rfl; have HMb3 := Aside0.mk ((HMb.out.alloc _).kept hd); have HMc3 := Aside0.mk ((HM2.out.alloc _).kept hd); have HB3 := Aside0.mk (below_step (below_alloc HB.out _) hd); clear hd)
                    | (go_at_call 40; (with_reducible refine (plus_calls (seedF (l.take i) need) v _ HRs.out HRv.out rfl _).mono ?_); rintro e w4 ⟨rfl, hd⟩; have hb := hd.below; have BX4 := Aside0.mk (blk_below BX.out hb); have z0' : w4.cell? ⟨wr.heap.size, 0, none⟩ = some (.int .i64 p.f0) := (blk_cell BX4.out 0).trans rfl; have z1' : w4.cell? ⟨wr.heap.size, 1, none⟩ = some (.int .u64 p.f1) := (blk_cell BX4.out 1).trans rfl; have HMb4 := Aside0.mk (HMb3.out.kept hb); have HMc4 := Aside0.mk (HMc3.out.kept hb); have HB4 := Aside0.mk (below_step HB3.out hb); clear hd hb z0 z1)
                    | (at_lookup; refine wpList_look rfl (.tmp 90) (.tmp 92) 76 true rfl 3 23 keyInt Tryd.underlying76 (enc23 z23) zero23 B n0 (intF enc23 (byF op)) rfl HMb4.out (.int .i64 p.f0) (.int .i64 p.f0) rfl HKy.out (some (enc23 s)) HBy.out ?_; simp only [looked_true, Option.getD_some, Option.isSome_some, enc23]))
                  have HMb5 := Aside0.mk (HMb4.out.alloc (.cells #[.int .i64 s.f0, .int .i64 s.f1, .int .i64 s.f2] 23))
                  have HMc5 := Aside0.mk (HMc4.out.alloc (.cells #[.int .i64 s.f0, .int .i64 s.f1, .int .i64 s.f2] 23))
                  have HB5 := Aside0.mk (below_alloc HB4.out (.cells #[.int .i64 s.f0, .int .i64 s.f1, .int .i64 s.f2] 23))
                  have BS := Aside0.mk (blk_new w4 (.cells #[.int .i64 s.f0, .int .i64 s.f1, .int .i64 s.f2] 23))
                  have BP := Aside0.mk (blk_alloc BX4.out (.cells #[.int .i64 s.f0, .int .i64 s.f1, .int .i64 s.f2] 23))
                  have y0 : (w4.alloc (.cells #[.int .i64 s.f0, .int .i64 s.f1, .int .i64 s.f2] 23)).cell? ⟨wr.heap.size, 0, none⟩ = some (.int .i64 p.f0) := (blk_cell BP.out 0).trans rfl
                  have y1 : (w4.alloc (.cells #[.int .i64 s.f0, .int .i64 s.f1, .int .i64 s.f2] 23)).cell? ⟨wr.heap.size, 1, none⟩ = some (.int .u64 p.f1) := (blk_cell BP.out 1).trans rfl
                  have s0 : (w4.alloc (.cells #[.int .i64 s.f0, .int .i64 s.f1, .int .i64 s.f2] 23)).cell? ⟨w4.heap.size, 0, none⟩ = some (.int .i64 s.f0) := (blk_cell BS.out 0).trans rfl
                  have s1 : (w4.alloc (.cells #[.int .i64 s.f0, .int .i64 s.f1, .int .i64 s.f2] 23)).cell? ⟨w4.heap.size, 1, none⟩ = some (.int .i64 s.f1) := (blk_cell BS.out 1).trans rfl
                  have s2 : (w4.alloc (.cells #[.int .i64 s.f0, .int .i64 s.f1, .int .i64 s.f2] 23)).cell? ⟨w4.heap.size, 2, none⟩ = some (.int .i64 s.f2) := (blk_cell BS.out 2).trans rfl
                  clear HMb4 HMc4 HB4 HMb3 HMc3 HB3 z0' z1' x0 x1 x2 BX BX4
                  generalize (w4.alloc (.cells #[.int .i64 s.f0, .int .i64 s.f1, .int .i64 s.f2] 23)) = W at *
                  generalize w4.heap.size = g2 at *
                  generalize wr.heap.size = g1 at *
                  have HK5 : Aside0 (∀ W', Below W.heap.size W W' → (W'.cell? ⟨g2, 0, none⟩ = some (.int .i64 s.f0) ∧ W'.cell? ⟨g2, 1, none⟩ = some (.int .i64 s.f1) ∧ W'.cell? ⟨g2, 2, none⟩ = some (.int .i64 s.f2)) ∧ W'.cell? ⟨g1, 1, none⟩ = some (.int .u64 p.f1) ∧ W'.cell? ⟨g1, 0, none⟩ = some (.int .i64 p.f0)) := ⟨fun W' hb => ⟨⟨cell_on hb s0, cell_on hb s1, cell_on hb s2⟩, cell_on hb y1, cell_on hb y0⟩⟩
                  go_region_held3 (fun W' => (W'.cell? ⟨g2, 0, none⟩ = some (.int .i64 s.f0) ∧ W'.cell? ⟨g2, 1, none⟩ = some (.int .i64 s.f1) ∧ W'.cell? ⟨g2, 2, none⟩ = some (.int .i64 s.f2)) ∧ W'.cell? ⟨g1, 1, none⟩ = some (.int .u64 p.f1) ∧ W'.cell? ⟨g1, 0, none⟩ = some (.int .i64 p.f0))
                    ((first | (refine HK5.out _ ?_; (first | exact HBq.out | exact below_drew (Below.refl _ _) | exact Below.refl _ _)) | go_keep))
                    ((go_at_call 31; (with_reducible refine (lottery_sum.calls s.f0 s.f1 s.f2 sm _ HSm.out ?gl).mono ?_); (case gl => exact HG.out.below (below_drew HB5.out)); rintro e w5 ⟨rfl, hd⟩; have HBq := Aside0.mk (below_step (below_drew (Below.refl W.heap.size W)) hd); obtain ⟨⟨q0, q1, q2⟩, q3, q4⟩ := HK5.out _ HBq.out; clear hd))
                  have HMb7 := Aside0.mk (HMb5.out.kept HBq.out)
                  have HMc7 := Aside0.mk (HMc5.out.kept HBq.out)
                  have HB7 := Aside0.mk (below_step HB5.out HBq.out)
                  clear HMb5 HMc5 HB5 y0 y1 s0 s1 s2 HK5
                  go_wp2_with ((at_mapUpdate; refine wpList_store rfl (.tmp 122) (.tmp 124) (.const (.bool true)) 72 rfl 3 4 keyInt Tryd.underlying72 Bc nc (intF Value.bool (setI (cheatsL (l.take i) op need))) rfl HMc7.out (.int .i64 p.f0) (.bool true) (.int .i64 p.f0) rfl rfl HKy.out ?_; intro w6 hm6 hg6; have HB6 := Aside0.mk (HB7.out.grown hg6 HB7.out.size (by rintro k h; cases h; exact hBc)); have HMc6 := Aside0.mk hm6; have HMb6 := Aside0.mk (HMb7.out.grown hg6 (by intro h; injection h with h; omega)); clear hm6 hg6))
                  go_roundg (l.length - (i + 1))
                  case measure => have := HI.out; omega
                  case rel => exact ⟨i + 1, by go_num, by rw [HSe.out], by rw [HRt'.out]; try go_num, ⟨by omega, rfl⟩, HMb6, ⟨⟨_, by rw [HCh'.out, ← setI_put, ← intF_put]; exact HMc6.out⟩⟩, HB6⟩
        · obtain rfl : i = l.length := by omega
          rw [List.take_length] at HMc ⊢
          obtain ⟨nc, hMc⟩ := HMc.out
          have HM2 := Aside0.mk hMc
          have hBclt := hMc.lt
          have hrn := rightN_le l op
          have hdr : drawF l (need : Int) op = if (rightN l op : Int) < (need : Int) then (0, [], 33) else (seedF l need, cheatsL l op need, 0) := by
            unfold drawF
            rw [HP.out, HN.out, HSec.out, Int.toNat_natCast]; rfl
          clear hMc HMc
          by_cases hfew : rightN l op < need
          · have HE : Aside0 (drawF l (need : Int) op = (0, [], 33)) := ⟨by rw [hdr, if_pos (by omega)]⟩
            have hf1 : (rightN l op : Int) < (need : Int) := by omega
            clear hdr
            go_wp2
            go_ret3
            exact ⟨_, by rw [HE.out]; rfl, by rw [HE.out]; exact Kd.R_nil _ _ _ _ _, HB.out⟩
          · have HE : Aside0 (drawF l (need : Int) op = (seedF l need, cheatsL l op need, 0)) := ⟨by rw [hdr, if_neg (by omega)]⟩
            have hf1 : ¬ (rightN l op : Int) < (need : Int) := by omega
            clear hdr hfew
            generalize seedF l need = sf at *
            generalize rightN l op = rn at *
            have hBsz := HB.out.size
            go_wp2_with (at_range; refine wpList_range rfl (.tmp 129) 72 rfl 3 4 Tryd.underlying72 Bc nc (intF Value.bool (setI (cheatsL l op need))) rfl HM2.out ?_; intro w7 hrg hg7 hs7)
            have HRg := Aside0.mk hrg
            have HB7 : Aside0 (Below w.heap.size w w7) := ⟨HB.out.grown hg7 hBsz (by rintro k h; cases h)⟩
            clear hrg hg7 HM2 HMb HB
            generalize hr : wr.heap.size = r at *
            have HRr := Aside0.mk hr
            clear hr
            go_loopg [24] nc (fun gk v24 w' => ∃ done : List Int, Aside0 (RangeAt w' Tryd.prog 3 Bc r (intF Value.bool (setI (cheatsL l op need))) nc (done.map (Value.int .i64)) gk) ∧ Aside0 (done.length ≤ 1000) ∧
              Aside0 (Kd.R (Kd.int .i64) 3 w' w.heap.size (fun k => k ≠ Bc ∧ k ≠ r) v24 done) ∧ Aside0 (Below w.heap.size w w'))
            case atStart => exact ⟨[], HRg, ⟨Nat.zero_le _⟩, ⟨Kd.R_nil _ _ _ _ _⟩, HB7⟩
            case round =>
              clear HRg HB7
              obtain ⟨done, HRg, HLn, HRw, HB⟩ := hrel
              go_wp2_with (at_next; refine wpList_next rfl (.tmp 130) rfl 3 Bc r nc (intF Value.bool (setI (cheatsL l op need))) (done.map (Value.int .i64)) _ rfl HRg.out ?_ ?_)
              · intro hc0 hall
                have HS : Aside0 ((done.mergeSort fun x y => decide (x ≤ y)) = cheatsL l op need) := ⟨by
                  have hnd : (done.map (Value.int .i64)).Nodup := HRg.out.nodup
                  have hri := cheatsL_ris HP.out op need
                  refine sort_eq ((List.perm_ext_iff_of_nodup ?_ (hri.imp (fun {a b} h => by omega))).2 fun x => ?_) hri
                  · rw [List.nodup_iff_pairwise_ne, List.pairwise_map] at hnd
                    rw [List.nodup_iff_pairwise_ne]
                    exact hnd.imp (fun {a b} h e => h (by rw [e]))
                  · have ha : Value.int .i64 x ∈ done.map (Value.int .i64) ↔ (intF Value.bool (setI (cheatsL l op need)) (.int .i64 x)).isSome = true := by rw [List.mem_map]; exact hall _
                    rw [← mem_int_map, ha, intF_some]
                    unfold setI
                    by_cases h : x ∈ cheatsL l op need
                    · rw [if_pos h]; simp [h]
                    · rw [if_neg h]; simp [h]⟩
                have HR9 : Aside0 (Kd.R (Kd.int .i64) 3 wr w.heap.size (fun _ => True) u24 done) := ⟨Kd.R_mono HRw.out (fun _ _ => trivial)⟩
                have hln := HLn.out
                clear hall hc0 HRg HRw
                go_wp2_with (go_at_call 41; (with_reducible refine (sort_R w.heap.size u24 done _ HR9.out (by omega)).mono ?_); rintro e w9 ⟨rfl, hR, hbb⟩; have HRs := Aside0.mk hR; have HB9 := Aside0.mk (hbb _ HB.out HB.out.size); clear hR hbb)
                go_ret3
                exact ⟨_, by rw [HE.out]; rfl, by rw [HE.out]; rw [HS.out] at HRs; exact HRs.out, HB9.out⟩
              · intro key v w8 cnt' hf hnot kl hkey hrg8 hlt8 hg8 hs8 hen
                obtain ⟨x, y, rfl, hg, rfl⟩ := intF_inv hf
                have HRg8 := Aside0.mk hrg8
                have hxc : x ∈ cheatsL l op need := by
                  unfold setI at hg
                  by_cases h : x ∈ cheatsL l op need
                  · exact h
                  · rw [if_neg h] at hg; cases hg
                have HLn' : Aside0 ((done ++ [x]).length ≤ 16) := ⟨by
                  have hnd : ((done ++ [x]).map (Value.int .i64)).Nodup := by rw [List.map_append]; exact HRg8.out.nodup
                  have hin : ∀ z ∈ (done ++ [x]), z ∈ cheatsL l op need := by
                    intro z hz
                    have h1 := HRg8.out.sub (.int .i64 z) (by rw [show [Value.int .i64 x] = [x].map (Value.int .i64) from rfl, ← List.map_append]; exact List.mem_map_of_mem hz)
                    rw [intF_some] at h1
                    unfold setI at h1
                    by_cases h : z ∈ cheatsL l op need
                    · exact h
                    · rw [if_neg h] at h1; cases h1
                  have h2 : (done ++ [x]).Nodup := by
                    rw [List.nodup_iff_pairwise_ne, List.pairwise_map] at hnd
                    rw [List.nodup_iff_pairwise_ne]
                    exact hnd.imp (fun {a b} h e => h (by rw [e]))
                  have h3 := nodup_len _ _ h2 hin
                  have h4 : (cheatsL l op need).length ≤ l.length := by unfold cheatsL; rw [List.length_map]; exact List.length_filter_le _ _
                  omega⟩
                have hln := HLn'.out
                rw [List.length_append, List.length_singleton] at hln
                have HB8 : Aside0 (Below w.heap.size w w8) := ⟨HB.out.grown hg8 HB.out.size (by rintro k h; cases h; have := HRr.out; omega)⟩
                have HRw8 := Aside0.mk (Kd.R_grown HRw.out hg8 (fun k hk e => hk.2 (by injection e)))
                have hrl := hrg8.lt
                have hbl := hrg8.map.lt
                clear hf hnot hkey hrg8 hg hg8 hs8 HRg HRw HB hxc
                go_wp2_with (at_builtin; refine Kd.R_append (Kd.int .i64) (w0 := w) w.heap.size rfl (.tmp 135) (.tmp 137) 24 3 (.int .i64 0) 8 rfl Tryd.underlying24 info3 rfl (by decide) (by omega) u24 done x [.int .i64 x] (fun k => k ≠ Bc ∧ k ≠ r) (fun _ => False) rfl rfl ?aP (fun _ hk => hk.elim) ?aF ?aO ?aB ?aS ?aL ?_; (case aP => exact rfl); (case aF => exact fun k hk => ⟨by omega, by omega⟩); (case aO => exact HRw8.out); (case aB => exact HB8.out); (case aS => exact HB8.out.size); (case aL => omega); intro v9 w9 ho9 hb9 hg9 hat9; have HRw9 := Aside0.mk ho9; have HB9 := Aside0.mk hb9; have HRg9 := Aside0.mk (HRg8.out.kept hg9 (Kd.R_away HRw8.out (fun k hk => hk.1)) (Kd.R_away HRw8.out (fun k hk => hk.2))); clear ho9 hb9 hg9 hat9)
                go_roundg cnt'
                case measure => omega
                case rel => exact ⟨done ++ [x], ⟨by rw [List.map_append]; exact HRg9.out⟩, ⟨by have := HLn'.out; omega⟩, HRw9, HB9⟩
theorem lottery_Draw.calls (A0 : Option Addr) (c0 : Nat) (l : List S31) (need : Int) (A2 : Option Addr) (c2 : Nat) (op : List S23) (r1 : Int) (r2 : List Int) (r3 : Int) (w : World) (hr0 : Kd.C k31 w A0 l.length l) (hc0 : l.length ≤ c0) (hr2 : Kd.C k23 w A2 op.length op) (hc2 : op.length ≤ c2)
    (h : lottery_Draw.f l need op = some (r1, r2, r3)) (hg : Gl w) :
    Calls Tryd.prog 16 #[.slice A0 l.length c0, .int .i64 need, .slice A2 op.length c2] w fun e w' => ∃ v : Value, e = .returned (.tuple #[.int .i64 r1, v, .int .i64 r3]) ∧ Kd.R (Kd.int .i64) 3 w' w.heap.size (fun _ => True) v r2 ∧ Below w.heap.size w w' := by
  unfold lottery_Draw.f at h
  split at h
  case isFalse => cases h
  rename_i hh
  have e := Option.some.inj h
  clear h
  show Calls _ _ _ w (DrawPost w (r1, r2, r3))
  rw [← e]
  cases hb : (pledgesB l && inB need 1 (l.length : Int)) with
  | false =>
    have hE : drawF l need op = (0, [], 1) := by unfold drawF; rw [hb, Bool.false_and, if_neg (by decide)]
    rw [hE]
    exact draw_no A0 c0 l need _ A2 op.length c2 rfl w hr0 hc0 hh.1 hb
  | true =>
    rw [Bool.and_eq_true] at hb
    have hn := hb.2
    have hn0 : 0 ≤ need := by unfold inB at hn; simp only [Bool.and_eq_true, decide_eq_true_eq] at hn; omega
    obtain ⟨m, rfl⟩ := Int.eq_ofNat_of_zero_le hn0
    exact draw_yes A0 c0 l m A2 c2 op w hr0 hc0 hr2 hc2 hh.2.1 hh.2.2 hg hb.1 hn
end Go.Proofs.YtfkeelccnomjkaaDoor.P
