/- The contract of lottery.Recover. -/
import Derived.Test.YtfkeelccnomjkaaDoorGThr
import Derived.Test.YtfkeelccnomjkaaDoorMapKeysI
import Derived.Deep.QuietTactic
import Derived.BigQuiet
namespace Go.Proofs.YtfkeelccnomjkaaDoor.P
open Go.RowKit Go.Proofs.YtfkeelccnomjkaaDoorW.PrintWords Go.Proofs.YtfkeelccnomjkaaDoorW.PrintLast Go.Proofs.YtfkeelccnomjkaaDoorW.PrintMore Go.Proofs.YtfkeelccnomjkaaDoor.M
open Go.Maps (Keyed int_keyed keyOf_int_mk)
open Go.MapKept Go.ChangeMaps
set_option linter.unusedVariables false
set_option linter.unusedSimpArgs false
theorem keyInt : Keyed Tryd.prog 3 := int_keyed Tryd.underlying3
theorem zeroBool (W : World) : (zeroValue 4).run Tryd.prog W = .ok (.bool false) W := by kernel_rfl
/-- A set of ints, as a map to true. -/
def setI (pts : List Int) : Int → Option Bool := fun x => if x ∈ pts then some true else none
theorem setI_nil : (fun _ => none : Value → Option Value) = intF Value.bool (setI []) := by
  rw [intF_none Value.bool]; congr 1
theorem setI_put (pts : List Int) (x : Int) : (fun j => if j = x then some true else setI pts j) = setI (pts ++ [x]) := by
  funext j
  unfold setI
  by_cases h : j = x
  · rw [if_pos h, if_pos (by simp [h])]
  · rw [if_neg h]
    by_cases h2 : j ∈ pts
    · rw [if_pos h2, if_pos (by simp [h2])]
    · rw [if_neg h2, if_neg (by simp [h2, h])]
theorem setI_look (pts : List Int) (x : Int) : ((intF Value.bool (setI pts)) (.int .i64 x)).getD (.bool false) = .bool (decide (x ∈ pts)) := by
  rw [intF_at]; unfold setI
  by_cases h : x ∈ pts
  · rw [if_pos h, decide_eq_true h]; rfl
  · rw [if_neg h, decide_eq_false h]; rfl
theorem setI_wf {x : Int} (h : -9223372036854775808 ≤ x ∧ x ≤ 9223372036854775807) : keyOf Tryd.prog 3 (.int .i64 x) = some (.int .i64 x) := keyOf_int_mk Tryd.underlying3 (WalkArith.wf_i64 h)
/-- Is a share well-formed? -/
def okS (s : S47) : Bool := inB s.f0 1 16 && isR s.f1
def ptsL (l : List S47) : List Int := l.map fun s => s.f0
def sharesB (l : List S47) : Bool := l.all okS && decide ((ptsL l).Nodup)
/-- What Recover returns. -/
def recF (l : List S47) : Int × Int := if inB (l.length : Int) 1 16 = true ∧ sharesB l = true then (thrF l 0, 0) else (0, 1)
def lottery_Recover.f (l : List S47) : Option (Int × Int) := some (recF l)
theorem okS_iff {s : S47} : okS s = true ↔ (1 ≤ s.f0 ∧ s.f0 ≤ 16) ∧ rs s.f1 := by
  unfold okS inB
  rw [Bool.and_eq_true, Bool.and_eq_true, decide_eq_true_eq, decide_eq_true_eq, isR_iff]
theorem okShs_of {l : List S47} (h : l.all okS = true) : okShs l := fun s hs => by
  have := okS_iff.1 (List.all_eq_true.1 h s hs)
  unfold rs at *
  omega
theorem ptsL_snoc {l : List S47} {i : Nat} (h : i < l.length) : ptsL (l.take (i + 1)) = ptsL (l.take i) ++ [(rd_T47 l (i : Int)).f0] := by
  rw [rd47_get h]; unfold ptsL
  rw [List.take_succ_eq_append_getElem h, List.map_append]; rfl
theorem shares_bad {l : List S47} {i : Nat} (h : i < l.length) (hb : okS (rd_T47 l (i : Int)) = false) : sharesB l = false := by
  unfold sharesB
  have : l.all okS = false := by
    rw [List.all_eq_false]; exact ⟨_, rd47_mem h, by rw [hb]; decide⟩
  rw [this]; rfl
theorem shares_twice {l : List S47} {i : Nat} (h : i < l.length) (hb : (rd_T47 l (i : Int)).f0 ∈ ptsL (l.take i)) : sharesB l = false := by
  unfold sharesB
  rw [decide_eq_false, Bool.and_false]
  intro hn
  have h2 : (ptsL (l.take (i + 1))).Nodup := by
    unfold ptsL at hn ⊢
    exact (List.Sublist.map _ (List.take_sublist (i + 1) l)).nodup hn
  rw [ptsL_snoc h, List.nodup_append] at h2
  exact h2.2.2 _ hb _ (List.mem_singleton.2 rfl) rfl
theorem blk_p1d (w : World) (o : Obj) (n : Nat) (o' : Obj) : (((w.alloc o).drewN n).alloc o').heap[w.heap.size + 1]? = some o' := by
  have h := blk_new ((w.alloc o).drewN n) o'
  simpa using h
def RecPost (w : World) (r : Int × Int) (e : Ending) (w' : World) : Prop := e = .returned (.tuple #[.int .i64 r.1, .int .i64 r.2]) ∧ Below w.heap.size w w'
set_option maxHeartbeats 16000000 in
set_option maxRecDepth 100000 in
theorem recover_calls (A : Option Addr) (c : Nat) (l : List S47) (w : World) (hr : Kd.C k47 w A l.length l) (hc : l.length ≤ c) :
    Calls Tryd.prog 14 #[.slice A l.length c] w (RecPost w (recF l)) := by
  have HR := Aside0.mk hr
  have HC := Aside0.mk hc
  have hm := hr.2.1
  have hu47 := Tryd.underlying47
  clear hr hc
  cases hb : inB (l.length : Int) 1 16 with
  | false =>
    have HE : Aside0 (recF l = (0, 1)) := ⟨by unfold recF; rw [if_neg (by rw [hb]; simp)]⟩
    have HBt := Aside0.mk hb
    clear hb
    rw [HE.out]
    go_enter Tryd.func14, Tryd.ntmps14
    go_wp2_with (go_at_call 29; (with_reducible refine (between_calls (l.length : Int) 1 16 false HBt.out _).mono ?_); rintro e w1 ⟨rfl, hd⟩; have HD := Aside0.mk hd; clear hd)
    go_ret2
    exact ⟨rfl, HD.out.below⟩
  | true =>
    have HBt := Aside0.mk hb
    have hl16 : l.length ≤ 16 := by unfold inB at hb; simp only [Bool.and_eq_true, decide_eq_true_eq] at hb; omega
    clear hb
    have hmm := @run_makeMap Tryd.prog
    go_enter Tryd.func14, Tryd.ntmps14
    go_wp2_with (go_at_call 29; (with_reducible refine (between_calls (l.length : Int) 1 16 true HBt.out _).mono ?_); rintro e w1 ⟨rfl, hd⟩; have HD := Aside0.mk hd; clear hd)
    clear hmm
    have HM0 := Aside0.mk (MapAt.made w1 Tryd.prog 3)
    have HB0 := Aside0.mk (below_alloc HD.out.below (.map #[] 0))
    have hBw : w.heap.size ≤ w1.heap.size := HD.out.below.size
    clear HD
    generalize hB : w1.heap.size = B at *
    have HBB := Aside0.mk hB
    clear hB
    go_loopg [6, 14] l.length (fun gk v6 v14 w' => ∃ i : Nat, v14 = .int .i64 i ∧ Aside0 (i ≤ l.length ∧ gk = l.length - i) ∧ Aside0 ((l.take i).all okS = true ∧ (ptsL (l.take i)).Nodup) ∧
      Aside0 (∃ n, MapAt w' Tryd.prog 3 B (intF Value.bool (setI (ptsL (l.take i)))) n) ∧ Aside0 (Below w.heap.size w w'))
    case atStart => exact ⟨0, rfl, ⟨Nat.zero_le _, rfl⟩, ⟨rfl, List.nodup_nil⟩, ⟨0, by rw [List.take_zero]; rw [show ptsL [] = [] from rfl, ← setI_nil]; exact HM0.out⟩, HB0⟩
    case round =>
      obtain ⟨i, rfl, HI, HG, HM, HB⟩ := hrel
      have hi := HI.out.1
      by_cases hlt : i < l.length
      · obtain ⟨ad, e, x0, x1⟩ := at_T47 HR.out (i : Int) (by omega) (by omega)
        cases e
        simp only [Int.toNat_natCast] at x0 x1
        replace x0 := (HB.out.cell (World.block_lt_of_cell? w _ x0)).trans x0
        replace x1 := (HB.out.cell (World.block_lt_of_cell? w _ x1)).trans x1
        have HP := Aside0.mk (ptsL_snoc hlt)
        cases h1 : inB (rd_T47 l (i : Int)).f0 1 16 with
        | false =>
          have HE : Aside0 (recF l = (0, 1)) := ⟨by unfold recF; rw [if_neg (by rw [shares_bad hlt (by unfold okS; rw [h1]; rfl)]; simp)]⟩
          have H1 := Aside0.mk h1
          clear h1
          generalize rd_T47 l (i : Int) = x at *
          go_wp2_with (go_at_call 29; (with_reducible refine (between_calls x.f0 1 16 false H1.out _).mono ?_); rintro e w2 ⟨rfl, hd⟩; have HD := Aside0.mk hd; clear hd)
          go_ret2
          exact ⟨by rw [HE.out]; rfl, below_step (below_alloc HB.out _) HD.out.below⟩
        | true =>
          cases h2 : isR (rd_T47 l (i : Int)).f1 with
          | false =>
            have HE : Aside0 (recF l = (0, 1)) := ⟨by unfold recF; rw [if_neg (by rw [shares_bad hlt (by unfold okS; rw [h1, h2]; rfl)]; simp)]⟩
            have H1 := Aside0.mk h1
            have H2 := Aside0.mk h2
            clear h1 h2
            generalize rd_T47 l (i : Int) = x at *
            go_wp2_with (first
              | (go_at_call 29; (with_reducible refine (between_calls x.f0 1 16 true H1.out _).mono ?_); rintro e w2 ⟨rfl, ⟨nd, rfl⟩⟩)
              | (go_at_call 30; (with_reducible refine (isRes_one _ x.f1 false H2.out _ (C_one x.f1 (blk_p1d _ _ _ _))).mono ?_); rintro e w2 ⟨rfl, hd⟩; have HD := Aside0.mk hd; clear hd))
            go_ret2
            exact ⟨by rw [HE.out]; rfl, below_step (below_alloc (pw_below_drewN (below_alloc HB.out _) _) _) HD.out⟩
          | true =>
            obtain ⟨n, hM⟩ := HM.out
            by_cases h3 : (rd_T47 l (i : Int)).f0 ∈ ptsL (l.take i)
            · have HE : Aside0 (recF l = (0, 1)) := ⟨by unfold recF; rw [if_neg (by rw [shares_twice hlt h3]; simp)]⟩
              have H1 := Aside0.mk h1
              have H2 := Aside0.mk h2
              have HL : Aside0 (∀ W, MapAt W Tryd.prog 3 B (intF Value.bool (setI (ptsL (l.take i)))) n → (Instr.lookup 72 (.map (some B)) (.int .i64 (rd_T47 l (i : Int)).f0) false).run Tryd.prog W = .ok (.bool true) W) := ⟨fun W hW => by
                have h := hW.look false keyInt Tryd.underlying72 (zeroBool W) (setI_wf (x := (rd_T47 l (i : Int)).f0) (by unfold inB at h1; simp only [Bool.and_eq_true, decide_eq_true_eq] at h1; omega))
                rw [looked_false, setI_look, decide_eq_true h3] at h; exact h⟩
              have HM1 := Aside0.mk hM
              clear h1 h2 h3 hM HM
              generalize rd_T47 l (i : Int) = x at *
              go_wp2_with (first
                | (go_at_call 29; (with_reducible refine (between_calls x.f0 1 16 true H1.out _).mono ?_); rintro e w2 ⟨rfl, ⟨nd, rfl⟩⟩)
                | (go_at_call 30; (with_reducible refine (isRes_one _ x.f1 true H2.out _ (C_one x.f1 (blk_p1d _ _ _ _))).mono ?_); rintro e w2 ⟨rfl, hd⟩; have z0 : w2.cell? ⟨wr.heap.size, 0, none⟩ = some (.int .i64 x.f0) := (blk_cell (blk_below (blk_alloc (blk_drewN (blk_new wr _) _) _) hd) 0).trans rfl; have hlk := HL.out w2 ((((HM1.out.alloc _).drewN _).alloc _).kept hd); have HD := Aside0.mk hd; clear hd))
              go_ret2
              exact ⟨by rw [HE.out]; rfl, below_step (below_alloc (pw_below_drewN (below_alloc HB.out _) _) _) HD.out⟩
            · have H1 := Aside0.mk h1
              have H2 := Aside0.mk h2
              have H3 := Aside0.mk (setI_wf (x := (rd_T47 l (i : Int)).f0) (by unfold inB at h1; simp only [Bool.and_eq_true, decide_eq_true_eq] at h1; omega))
              have HL : Aside0 (∀ W, MapAt W Tryd.prog 3 B (intF Value.bool (setI (ptsL (l.take i)))) n → (Instr.lookup 72 (.map (some B)) (.int .i64 (rd_T47 l (i : Int)).f0) false).run Tryd.prog W = .ok (.bool false) W) := ⟨fun W hW => by
                have h := hW.look false keyInt Tryd.underlying72 (zeroBool W) H3.out
                rw [looked_false, setI_look, decide_eq_false h3] at h; exact h⟩
              have HM1 := Aside0.mk hM
              have HG' : Aside0 ((l.take (i + 1)).all okS = true ∧ (ptsL (l.take (i + 1))).Nodup) := ⟨by
                refine ⟨?_, ?_⟩
                · rw [List.take_succ_eq_append_getElem hlt, List.all_append, HG.out.1, ← rd47_get hlt]
                  simp [okS, h1, h2]
                · rw [HP.out, List.nodup_append]
                  exact ⟨HG.out.2, List.nodup_cons.2 ⟨List.not_mem_nil, List.nodup_nil⟩, fun a ha b hb e => by
                    rw [List.mem_singleton] at hb; subst hb; subst e; exact h3 ha⟩⟩
              have HBg := HM1.out.lt
              clear h1 h2 h3 hM HM
              generalize rd_T47 l (i : Int) = x at *
              go_wp2_with (first
                | (go_at_call 29; (with_reducible refine (between_calls x.f0 1 16 true H1.out _).mono ?_); rintro e w2 ⟨rfl, ⟨nd, rfl⟩⟩)
                | (go_at_call 30; (with_reducible refine (isRes_one _ x.f1 true H2.out _ (C_one x.f1 (blk_p1d _ _ _ _))).mono ?_); rintro e w2 ⟨rfl, hd⟩; have z0 : w2.cell? ⟨wr.heap.size, 0, none⟩ = some (.int .i64 x.f0) := (blk_cell (blk_below (blk_alloc (blk_drewN (blk_new wr _) _) _) hd) 0).trans rfl; have hlk := HL.out w2 ((((HM1.out.alloc _).drewN _).alloc _).kept hd); have HM2 := Aside0.mk ((((HM1.out.alloc _).drewN _).alloc _).kept hd); have HD := Aside0.mk (below_step (below_alloc (pw_below_drewN (below_alloc HB.out _) _) _) hd); clear hd)
                | (at_mapUpdate; refine wpList_store rfl (.tmp 35) (.tmp 37) (.const (.bool true)) 72 rfl 3 4 keyInt Tryd.underlying72 B n (intF Value.bool (setI (ptsL (l.take i)))) rfl HM2.out (.int .i64 x.f0) (.bool true) (.int .i64 x.f0) rfl rfl H3.out ?_; intro w3 hm3 hg3; have HD3 := Aside0.mk (HD.out.grown hg3 HD.out.size (by rintro k h; cases h; exact hBw)); have HM3 := Aside0.mk hm3; clear hm3 hg3))
              go_roundg (l.length - (i + 1))
              case measure => have := HI.out; omega
              case rel => exact ⟨i + 1, by go_num, ⟨by omega, rfl⟩, HG', ⟨_, by rw [HP.out, ← setI_put, ← intF_put]; exact HM3.out⟩, HD3⟩
      · obtain rfl : i = l.length := by omega
        have hg := HG.out
        rw [List.take_length] at hg
        have HE : Aside0 (recF l = (thrF l 0, 0)) := ⟨by
          unfold recF; rw [if_pos ⟨HBt.out, by unfold sharesB; rw [hg.1, decide_eq_true hg.2]; rfl⟩]⟩
        obtain ⟨K, hK⟩ := (through_ev (l := l) (x := 0) ⟨by decide, by decide⟩ (okShs_of hg.1) (by omega)).rounds
        have HK := Aside0.mk hK
        clear hK hg
        generalize thrF l 0 = r at *
        go_wp2_with (go_at_call 36; (with_reducible refine (lottery_through.calls K A c l 0 r _ ?s1 HC.out HK.out).mono ?_); (case s1 => exact Kd.C_below HR.out HB.out); rintro e w2 ⟨rfl, hd⟩; have HD := Aside0.mk hd; clear hd)
        go_ret2
        exact ⟨by rw [HE.out]; rfl, below_step HB.out HD.out⟩
theorem lottery_Recover.calls (A : Option Addr) (c : Nat) (l : List S47) (r1 r2 : Int) (w : World) (hr : Kd.C k47 w A l.length l) (hc : l.length ≤ c) (h : lottery_Recover.f l = some (r1, r2)) :
    Calls Tryd.prog 14 #[.slice A l.length c] w fun e w' => e = .returned (.tuple #[.int .i64 r1, .int .i64 r2]) ∧ Below w.heap.size w w' := by
  have h2 := recover_calls A c l w hr hc
  rw [show recF l = (r1, r2) from Option.some.inj h] at h2
  exact h2
end Go.Proofs.YtfkeelccnomjkaaDoor.P
