/- What last of the reference implementation computes: the readings that count, by rising days. -/
import Derived.Test.YtknfkibnocfjiaaDoorMLast
import Derived.Test.YtknfkibnocfjiaaDoorPR4
import Derived.Test.YtknfkibnocfjiaaDoorGTail
namespace Go.Proofs.YtknfkibnocfjiaaDoor.P
open Go.RowKit Go.Proofs.YtknfkibnocfjiaaDoorW.PrintWords Go.Proofs.YtknfkibnocfjiaaDoorW.PrintLast Go.Proofs.YtknfkibnocfjiaaDoorW.PrintMore Go.Proofs.YtknfkibnocfjiaaDoor.M
set_option linter.unusedVariables false
set_option linter.unusedSimpArgs false
theorem rcounts_f (m : S25) (r : S43) (known : Int) : cohousingref27_counts.f m.f0 m.f1 m.f2 m.f3 m.f4.f0 m.f4.f1 r.f0 r.f1 r.f2 r.f3 known = some (countsB m known r) := by
  unfold cohousingref27_counts.f countsB
  by_cases h1 : r.f0 = m.f0
  · rw [if_pos h1, beq_iff_eq.2 h1]
    by_cases h2 : r.f3 ≤ known
    · rw [if_pos h2, decide_eq_true h2]
      by_cases h3 : m.f4.f0 ≤ r.f1
      · rw [if_pos h3, decide_eq_true h3]; rfl
      · rw [if_neg h3, decide_eq_false h3]; rfl
    · rw [if_neg h2, decide_eq_false h2]; rfl
  · rw [if_neg h1, beq_eq_false_iff_ne.2 h1]; rfl
theorem rcounts_calls (m : S25) (r : S43) (known : Int) (b : Bool) (hb : countsB m known r = b) (W : World) : Calls Tryd.prog 45 #[.agg #[.int .i64 m.f0, .int .i64 m.f1, .int .i64 m.f2, .int .i64 m.f3, .int .i64 m.f4.f0, .int .i64 m.f4.f1], .agg #[.int .i64 r.f0, .int .i64 r.f1, .int .i64 r.f2, .int .i64 r.f3], .int .i64 known] W fun e w' => e = .returned (.bool b) ∧ Below W.heap.size W w' :=
  (cohousingref27_counts.calls _ _ _ _ _ _ _ _ _ _ _ b W (by rw [rcounts_f, hb])).mono fun e w' h => by first | exact h | exact ⟨h.1, h.2.below⟩
section
open Go.RowKit
variable {P : Program} {md : Region.Mode} {Q : Exit → Act → World → Prop} {S : World → Prop}
/-- Number i first, where its guard bars it. -/
theorem skip_held {l : List Oper} (i : Nat) {oi : Oper} {fuel : Nat} {listed : Array Bool} {a : Act} {w : World} (hi : l[i]? = some oi)
    (hs : Region.noSelect l.toArray = true) (hf : Region.free md l.toArray listed i = true) (hr : (Region.ready md l.toArray listed).contains i = true)
    (hQ : ∀ c a w, Q (.panic c) (a.put oi.dst undef) w → Q (.panic c) a w) (hw : Region.wanted oi (yielded l.toArray a.tmps) = false) (hS : S w)
    (h : wpAnyH P md l.toArray Q S fuel (listed.setIfInBounds i true) (a.put oi.dst undef) w) : wpAnyH P md l.toArray Q S (fuel + 1) listed a w :=
  wpAnyH_take (by simpa using hi) hs hf hr hQ (.inr ⟨hw, rfl⟩) hS h
end
/-- The best reading so far, as an index tells it: -1, if there is none. -/
def BI (m : S25) (known fr : Int) (l : List S43) (i : Nat) (bi : Int) : Prop := (bi = -1 ∧ bestF m known fr (l.take i) = none) ∨ ∃ k : Nat, k < i ∧ bi = k ∧ bestF m known fr (l.take i) = some (rd_T43 l (k : Int))
theorem BI.keep {m : S25} {known fr : Int} {l : List S43} {i : Nat} {bi : Int} (h : BI m known fr l i bi) (hi : i < l.length) (hn : ¬ (countsB m known (rd_T43 l (i : Int)) = true ∧ fr ≤ (rd_T43 l (i : Int)).f1 ∧ BetterR (bestF m known fr (l.take i)) (rd_T43 l (i : Int)))) : BI m known fr l (i + 1) bi := by
  have e : bestF m known fr (l.take (i + 1)) = bestF m known fr (l.take i) := by
    rw [take43_snoc hi, bestF_snoc]; unfold bestStep; rw [if_neg hn]
  rcases h with ⟨h1, h2⟩ | ⟨k, h1, h2, h3⟩
  · exact .inl ⟨h1, by rw [e]; exact h2⟩
  · exact .inr ⟨k, by omega, h2, by rw [e]; exact h3⟩
theorem BI.take {m : S25} {known fr : Int} {l : List S43} {i : Nat} (hi : i < l.length) (hn : countsB m known (rd_T43 l (i : Int)) = true ∧ fr ≤ (rd_T43 l (i : Int)).f1 ∧ BetterR (bestF m known fr (l.take i)) (rd_T43 l (i : Int))) : BI m known fr l (i + 1) i :=
  .inr ⟨i, Nat.lt_succ_self _, rfl, by rw [take43_snoc hi, bestF_snoc]; unfold bestStep; rw [if_pos hn]⟩

set_option maxHeartbeats 32000000 in
set_option maxRecDepth 100000 in
theorem rlast_calls (m : S25) (A0 : Option Addr) (c0 : Nat) (l : List S43) (known : Int) (w : World) (hr0 : Kd.C k43 w A0 l.length l) (hc0 : l.length ≤ c0) (hv : validM m = true) (hrl : readingsL l = true) :
    Calls Tryd.prog 33 #[.agg #[.int .i64 m.f0, .int .i64 m.f1, .int .i64 m.f2, .int .i64 m.f3, .int .i64 m.f4.f0, .int .i64 m.f4.f1], .slice A0 l.length c0, .int .i64 known] w fun e w' => ∃ v : Value, e = .returned v ∧ Kd.R k43 43 w' w.heap.size (fun _ => True) v (colL m known l) ∧ Below w.heap.size w w' := by
  have hu43 := Tryd.underlying43
  have hu25 := Tryd.underlying25
  have hu23 := Tryd.underlying23
  have HR0 := Aside0.mk hr0
  have hvb := validM_bounds hv
  have HOK : Aside0 (l.length ≤ 1000 ∧ ∀ x ∈ l, readingOk x = true) := ⟨by
    unfold readingsL at hrl
    simp only [Bool.and_eq_true, decide_eq_true_eq, List.all_eq_true] at hrl
    exact hrl⟩
  have hlen := HOK.out.1
  have HDL : Aside0 ((daysL m known l).length ≤ l.length ∧ (colL m known l).length = (daysL m known l).length) := ⟨len_daysL m known l, by unfold colL; rw [List.length_map]⟩
  have HB := Aside0.mk (below_alloc (Below.refl w.heap.size w) (.cells #[.int .i64 m.f0, .int .i64 m.f1, .int .i64 m.f2, .int .i64 m.f3, .int .i64 m.f4.f0, .int .i64 m.f4.f1] 25))
  have BM := Aside0.mk (blk_new w (.cells #[.int .i64 m.f0, .int .i64 m.f1, .int .i64 m.f2, .int .i64 m.f3, .int .i64 m.f4.f0, .int .i64 m.f4.f1] 25))
  have HL0 := Aside0.mk (LI.start m known l)
  clear hr0 hv hrl
  go_enter Tryd.func33, Tryd.ntmps33
  go_wp2
  go_loopg [7, 8] (daysL m known l).length (fun gk v7 v8 w' => ∃ (j : Nat) (fr : Int), v8 = .int .i64 fr ∧ Aside0 (gk = (daysL m known l).length - j ∧ LI m known l j fr ∧ 0 ≤ fr ∧ fr ≤ 36526) ∧ Aside0 (Kd.R k43 43 w' w.heap.size (fun _ => True) v7 ((colL m known l).take j)) ∧ Aside0 (w'.heap[w.heap.size]? = some (.cells #[.int .i64 m.f0, .int .i64 m.f1, .int .i64 m.f2, .int .i64 m.f3, .int .i64 m.f4.f0, .int .i64 m.f4.f1] 25 (0, 0)) ∧ Below w.heap.size w w'))
  case atStart => exact ⟨0, m.f4.f0, rfl, ⟨rfl, HL0.out, by omega, by omega⟩, ⟨by rw [List.take_zero]; exact Kd.R_nil _ _ _ _ _⟩, ⟨BM.out, HB.out⟩⟩
  case round =>
    clear HB BM HL0
    obtain ⟨j, fr, rfl, HJ, HO, HW⟩ := hrel
    have hfr := HJ.out.2.2
    obtain ⟨wo, rfl⟩ : ∃ wo : World, wo = wr := ⟨_, rfl⟩
    have z0 : wo.cell? ⟨w.heap.size, 0, none⟩ = some (.int .i64 m.f0) := (blk_cell (HW.out.1) 0).trans rfl
    have z1 : wo.cell? ⟨w.heap.size, 1, none⟩ = some (.int .i64 m.f1) := (blk_cell (HW.out.1) 1).trans rfl
    have z2 : wo.cell? ⟨w.heap.size, 2, none⟩ = some (.int .i64 m.f2) := (blk_cell (HW.out.1) 2).trans rfl
    have z3 : wo.cell? ⟨w.heap.size, 3, none⟩ = some (.int .i64 m.f3) := (blk_cell (HW.out.1) 3).trans rfl
    have z4 : wo.cell? ⟨w.heap.size, 4, none⟩ = some (.int .i64 m.f4.f0) := (blk_cell (HW.out.1) 4).trans rfl
    have z5 : wo.cell? ⟨w.heap.size, 5, none⟩ = some (.int .i64 m.f4.f1) := (blk_cell (HW.out.1) 5).trans rfl
    by_cases hfu : fr ≤ m.f4.f1
    · have g1 : decide (fr ≤ m.f4.f1) = true := decide_eq_true hfu
      go_upto_block 2 with (fail)
      clear g1 z0 z1 z2 z3 z4 z5
      go_cut [9] (fun v9 wd => ∃ bi : Int, v9 = .int .i64 bi ∧ Aside0 (BI m known fr l l.length bi) ∧ Aside0 (Below wo.heap.size wo wd))
      case first =>
        go_wp2
        go_loopg [9, 10] l.length (fun gk v9 v10 w' => ∃ i : Nat, v10 = .int .i64 i ∧ Aside0 (i ≤ l.length ∧ gk = l.length - i) ∧ (∃ bi : Int, v9 = .int .i64 bi ∧ Aside0 (BI m known fr l i bi)) ∧ Aside0 (Below wo.heap.size wo w'))
        case atStart => exact ⟨0, rfl, ⟨Nat.zero_le _, rfl⟩, ⟨-1, rfl, ⟨.inl ⟨rfl, by rw [List.take_zero]; rfl⟩⟩⟩, ⟨Below.refl _ _⟩⟩
        case round =>
          obtain ⟨i, rfl, HI, ⟨bi, rfl, HBI⟩, HWi⟩ := hrel
          have hi := HI.out.1
          have HW2' := Aside0.mk (below_step HW.out.2 HWi.out)
          by_cases hlt : i < l.length
          · obtain ⟨ad, e, x0, x1, x2, x3⟩ := at_T43 (Kd.C_below HR0.out HW2'.out) (i : Int) (by omega) (by omega)
            cases e
            simp only [Int.toNat_natCast] at x0 x1 x2 x3
            have HLT := Aside0.mk hlt
            have HKeep := Aside0.mk (fun hn => HBI.out.keep hlt hn)
            have HTake := Aside0.mk (fun hn => BI.take (m := m) (known := known) (fr := fr) hlt hn)
            have j0 : (0 : Int) ≤ (i : Int) := by omega
            have j1 : (i : Int) < (l.length : Int) := by omega
            have g1 : decide ((i : Int) < (l.length : Int)) = true := decide_eq_true j1
            have g2 : decide (i < l.length) = true := decide_eq_true hlt
            have BMr := Aside0.mk (blk_below HW.out.1 HWi.out)
            generalize hx : rd_T43 l (i : Int) = x at *
            have HX := Aside0.mk hx
            have hw1 : IntKind.i64.wrap ((i : Int) + 1) = (i : Int) + 1 := Go.IntWalk.i64_in _ (by omega)
            clear hx hlt
            go_upto_region 8 with (fail)
            clear g1 g2
            have z0 : wr.cell? ⟨w.heap.size, 0, none⟩ = some (.int .i64 m.f0) := (blk_cell (BMr.out) 0).trans rfl
            have z1 : wr.cell? ⟨w.heap.size, 1, none⟩ = some (.int .i64 m.f1) := (blk_cell (BMr.out) 1).trans rfl
            have z2 : wr.cell? ⟨w.heap.size, 2, none⟩ = some (.int .i64 m.f2) := (blk_cell (BMr.out) 2).trans rfl
            have z3 : wr.cell? ⟨w.heap.size, 3, none⟩ = some (.int .i64 m.f3) := (blk_cell (BMr.out) 3).trans rfl
            have z4 : wr.cell? ⟨w.heap.size, 4, none⟩ = some (.int .i64 m.f4.f0) := (blk_cell (BMr.out) 4).trans rfl
            have z5 : wr.cell? ⟨w.heap.size, 5, none⟩ = some (.int .i64 m.f4.f1) := (blk_cell (BMr.out) 5).trans rfl
            have HSC := Aside0.mk (fun W (h : Below wr.heap.size wr W) => show Below wr.heap.size wr W ∧ W.cell? ⟨w.heap.size, 0, none⟩ = some (.int .i64 m.f0) ∧ W.cell? ⟨w.heap.size, 1, none⟩ = some (.int .i64 m.f1) ∧ W.cell? ⟨w.heap.size, 2, none⟩ = some (.int .i64 m.f2) ∧ W.cell? ⟨w.heap.size, 3, none⟩ = some (.int .i64 m.f3) ∧ W.cell? ⟨w.heap.size, 4, none⟩ = some (.int .i64 m.f4.f0) ∧ W.cell? ⟨w.heap.size, 5, none⟩ = some (.int .i64 m.f4.f1) ∧ W.cell? (ad.add (i * 4)) = some (.int .i64 x.f0) ∧ W.cell? ⟨(ad.add (i * 4)).block, (ad.add (i * 4)).off + 1, none⟩ = some (.int .i64 x.f1) ∧ W.cell? ⟨(ad.add (i * 4)).block, (ad.add (i * 4)).off + 2, none⟩ = some (.int .i64 x.f2) ∧ W.cell? ⟨(ad.add (i * 4)).block, (ad.add (i * 4)).off + 3, none⟩ = some (.int .i64 x.f3) from ⟨h, (blk_cell (blk_below BMr.out h) 0).trans rfl, (blk_cell (blk_below BMr.out h) 1).trans rfl, (blk_cell (blk_below BMr.out h) 2).trans rfl, (blk_cell (blk_below BMr.out h) 3).trans rfl, (blk_cell (blk_below BMr.out h) 4).trans rfl, (blk_cell (blk_below BMr.out h) 5).trans rfl, (h.cell (World.block_lt_of_cell? wr _ x0)).trans x0, (h.cell (World.block_lt_of_cell? wr _ x1)).trans x1, (h.cell (World.block_lt_of_cell? wr _ x2)).trans x2, (h.cell (World.block_lt_of_cell? wr _ x3)).trans x3⟩)
            go_cut [41] (fun v41 wd => v41 = .bool (!(countsB m known x) || decide (x.f1 < fr)) ∧ Aside0 (Below wr.heap.size wr wd))
            case first =>
              cases hc : countsB m known x with
              | false =>
                have HCnt := Aside0.mk (rcounts_calls m x known false hc)
                have HCE := Aside0.mk hc
                clear hc HKeep HTake HBI
                refine wp_region_any (by kernel_rfl) ?_
                refine wpAny_of_held (S := fun W => Below wr.heap.size wr W ∧ W.cell? ⟨w.heap.size, 0, none⟩ = some (.int .i64 m.f0) ∧ W.cell? ⟨w.heap.size, 1, none⟩ = some (.int .i64 m.f1) ∧ W.cell? ⟨w.heap.size, 2, none⟩ = some (.int .i64 m.f2) ∧ W.cell? ⟨w.heap.size, 3, none⟩ = some (.int .i64 m.f3) ∧ W.cell? ⟨w.heap.size, 4, none⟩ = some (.int .i64 m.f4.f0) ∧ W.cell? ⟨w.heap.size, 5, none⟩ = some (.int .i64 m.f4.f1) ∧ W.cell? (ad.add (i * 4)) = some (.int .i64 x.f0) ∧ W.cell? ⟨(ad.add (i * 4)).block, (ad.add (i * 4)).off + 1, none⟩ = some (.int .i64 x.f1) ∧ W.cell? ⟨(ad.add (i * 4)).block, (ad.add (i * 4)).off + 2, none⟩ = some (.int .i64 x.f2) ∧ W.cell? ⟨(ad.add (i * 4)).block, (ad.add (i * 4)).off + 3, none⟩ = some (.int .i64 x.f3)) _ _ _ _ ?_
                show wpAnyH _ _ _ _ _ 17 (Array.replicate 17 false) _ _
                have HS := HSC.out _ (below_drew (Below.refl _ _))
                refine take_held (v := .agg #[.int .i64 m.f0, .int .i64 m.f1, .int .i64 m.f2, .int .i64 m.f3, .int .i64 m.f4.f0, .int .i64 m.f4.f1]) 0 rfl (by kernel_rfl) (by kernel_rfl) (by kernel_rfl) (fun _ _ _ h => h) (by rfl) HS (fun w9 h9 => ?hy) ?_
                case hy => (obtain ⟨_, q0, q1, q2, q3, q4, q5, p0, p1, p2, p3⟩ := h9; go_simp)
                try simp only [Act.put, List.setIfInBounds_toArray, List.set_cons_zero, List.set_cons_succ]
                refine take_held (v := .slice (some ad) l.length c0) 1 rfl (by kernel_rfl) (by kernel_rfl) (by kernel_rfl) (fun _ _ _ h => h) (by rfl) HS (fun w9 h9 => ?hy) ?_
                case hy => (clear h9; go_simp)
                try simp only [Act.put, List.setIfInBounds_toArray, List.set_cons_zero, List.set_cons_succ]
                refine take_held (v := .int .i64 (i : Int)) 2 rfl (by kernel_rfl) (by kernel_rfl) (by kernel_rfl) (fun _ _ _ h => h) (by rfl) HS (fun w9 h9 => ?hy) ?_
                case hy => (clear h9; go_simp)
                try simp only [Act.put, List.setIfInBounds_toArray, List.set_cons_zero, List.set_cons_succ]
                refine take_held (v := .pointer (some (ad.add (i * 4)))) 3 rfl (by kernel_rfl) (by kernel_rfl) (by kernel_rfl) (fun _ _ _ h => h) (by rfl) HS (fun w9 h9 => ?hy) ?_
                case hy => (clear h9; go_simp)
                try simp only [Act.put, List.setIfInBounds_toArray, List.set_cons_zero, List.set_cons_succ]
                refine take_held (v := .agg #[.int .i64 x.f0, .int .i64 x.f1, .int .i64 x.f2, .int .i64 x.f3]) 4 rfl (by kernel_rfl) (by kernel_rfl) (by kernel_rfl) (fun _ _ _ h => h) (by rfl) HS (fun w9 h9 => ?hy) ?_
                case hy => (obtain ⟨_, q0, q1, q2, q3, q4, q5, p0, p1, p2, p3⟩ := h9; go_simp)
                try simp only [Act.put, List.setIfInBounds_toArray, List.set_cons_zero, List.set_cons_succ]
                refine take_held (v := .int .i64 known) 5 rfl (by kernel_rfl) (by kernel_rfl) (by kernel_rfl) (fun _ _ _ h => h) (by rfl) HS (fun w9 h9 => ?hy) ?_
                case hy => (clear h9; go_simp)
                try simp only [Act.put, List.setIfInBounds_toArray, List.set_cons_zero, List.set_cons_succ]
                refine only_held 6 rfl (by kernel_rfl) (fun K hK => ?_)
                rw [if_pos (by rfl)]
                go_simp
                ((go_at_call 45; (with_reducible refine (HCnt.out _).mono ?_); rintro e w2 ⟨rfl, hb⟩; have HW2 : Aside0 (Below wr.heap.size wr w2) := ⟨by first | exact below_then (below_drew (Below.refl _ _)) (Nat.le_refl _) hb | exact below_then (pw_below_drewN (Below.refl _ _) _) (Nat.le_refl _) hb | exact hb⟩; clear hb))
                refine hK.out _ _ (HSC.out _ HW2.out) ?_
                clear hK K
                replace HS := HSC.out _ HW2.out
                try simp only [Act.put, List.setIfInBounds_toArray, List.set_cons_zero, List.set_cons_succ]
                refine take_held (v := .bool true) 7 rfl (by kernel_rfl) (by kernel_rfl) (by kernel_rfl) (fun _ _ _ h => h) (by rfl) HS (fun w9 h9 => ?hy) ?_
                case hy => (clear h9; go_simp)
                try simp only [Act.put, List.setIfInBounds_toArray, List.set_cons_zero, List.set_cons_succ]
                refine take_held (v := .bool true) 8 rfl (by kernel_rfl) (by kernel_rfl) (by kernel_rfl) (fun _ _ _ h => h) (by rfl) HS (fun w9 h9 => ?hy) ?_
                case hy => (clear h9; go_simp)
                try simp only [Act.put, List.setIfInBounds_toArray, List.set_cons_zero, List.set_cons_succ]
                refine skip_held 9 rfl (by kernel_rfl) (by kernel_rfl) (by kernel_rfl) (fun _ _ _ h => h) (by rfl) HS ?_
                try simp only [Act.put, List.setIfInBounds_toArray, List.set_cons_zero, List.set_cons_succ]
                refine skip_held 10 rfl (by kernel_rfl) (by kernel_rfl) (by kernel_rfl) (fun _ _ _ h => h) (by rfl) HS ?_
                try simp only [Act.put, List.setIfInBounds_toArray, List.set_cons_zero, List.set_cons_succ]
                refine skip_held 11 rfl (by kernel_rfl) (by kernel_rfl) (by kernel_rfl) (fun _ _ _ h => h) (by rfl) HS ?_
                try simp only [Act.put, List.setIfInBounds_toArray, List.set_cons_zero, List.set_cons_succ]
                refine skip_held 12 rfl (by kernel_rfl) (by kernel_rfl) (by kernel_rfl) (fun _ _ _ h => h) (by rfl) HS ?_
                try simp only [Act.put, List.setIfInBounds_toArray, List.set_cons_zero, List.set_cons_succ]
                refine skip_held 13 rfl (by kernel_rfl) (by kernel_rfl) (by kernel_rfl) (fun _ _ _ h => h) (by rfl) HS ?_
                try simp only [Act.put, List.setIfInBounds_toArray, List.set_cons_zero, List.set_cons_succ]
                refine skip_held 14 rfl (by kernel_rfl) (by kernel_rfl) (by kernel_rfl) (fun _ _ _ h => h) (by rfl) HS ?_
                try simp only [Act.put, List.setIfInBounds_toArray, List.set_cons_zero, List.set_cons_succ]
                refine skip_held 15 rfl (by kernel_rfl) (by kernel_rfl) (by kernel_rfl) (fun _ _ _ h => h) (by rfl) HS ?_
                try simp only [Act.put, List.setIfInBounds_toArray, List.set_cons_zero, List.set_cons_succ]
                refine take_held (v := .bool true) 16 rfl (by kernel_rfl) (by kernel_rfl) (by kernel_rfl) (fun _ _ _ h => h) (by rfl) HS (fun w9 h9 => ?hy) ?_
                case hy => (clear h9; go_simp)
                try simp only [Act.put, List.setIfInBounds_toArray, List.set_cons_zero, List.set_cons_succ]
                refine done_held (by kernel_rfl) ?_
                go_wp2
                go_meet
                case rel => exact ⟨by rw [HCE.out]; rfl, HW2⟩
              | true =>
                have HCnt := Aside0.mk (rcounts_calls m x known true hc)
                have HCE := Aside0.mk hc
                clear hc HKeep HTake HBI
                by_cases hd : x.f1 < fr
                · have e1 : decide (x.f1 < fr) = true := decide_eq_true hd
                  clear hd
                  go_region_held3 (fun W => Below wr.heap.size wr W ∧ W.cell? ⟨w.heap.size, 0, none⟩ = some (.int .i64 m.f0) ∧ W.cell? ⟨w.heap.size, 1, none⟩ = some (.int .i64 m.f1) ∧ W.cell? ⟨w.heap.size, 2, none⟩ = some (.int .i64 m.f2) ∧ W.cell? ⟨w.heap.size, 3, none⟩ = some (.int .i64 m.f3) ∧ W.cell? ⟨w.heap.size, 4, none⟩ = some (.int .i64 m.f4.f0) ∧ W.cell? ⟨w.heap.size, 5, none⟩ = some (.int .i64 m.f4.f1) ∧ W.cell? (ad.add (i * 4)) = some (.int .i64 x.f0) ∧ W.cell? ⟨(ad.add (i * 4)).block, (ad.add (i * 4)).off + 1, none⟩ = some (.int .i64 x.f1) ∧ W.cell? ⟨(ad.add (i * 4)).block, (ad.add (i * 4)).off + 2, none⟩ = some (.int .i64 x.f2) ∧ W.cell? ⟨(ad.add (i * 4)).block, (ad.add (i * 4)).off + 3, none⟩ = some (.int .i64 x.f3))
                    (refine HSC.out _ (by first | exact HW2.out | exact below_drew HW2.out | exact Below.refl _ _ | exact below_drew (Below.refl _ _) | exact pw_below_drewN (Below.refl _ _) _))
                    ((go_at_call 45; (with_reducible refine (HCnt.out _).mono ?_); rintro e w2 ⟨rfl, hb⟩; have HW2 : Aside0 (Below wr.heap.size wr w2) := ⟨by first | exact below_then (below_drew (Below.refl _ _)) (Nat.le_refl _) hb | exact below_then (pw_below_drewN (Below.refl _ _) _) (Nat.le_refl _) hb | exact hb⟩; clear hb))
                  all_goals go_wp2
                  all_goals go_meet
                  case rel => exact ⟨by rw [HCE.out, e1]; rfl, HW2⟩
                · have e1 : decide (x.f1 < fr) = false := decide_eq_false hd
                  clear hd
                  go_region_held3 (fun W => Below wr.heap.size wr W ∧ W.cell? ⟨w.heap.size, 0, none⟩ = some (.int .i64 m.f0) ∧ W.cell? ⟨w.heap.size, 1, none⟩ = some (.int .i64 m.f1) ∧ W.cell? ⟨w.heap.size, 2, none⟩ = some (.int .i64 m.f2) ∧ W.cell? ⟨w.heap.size, 3, none⟩ = some (.int .i64 m.f3) ∧ W.cell? ⟨w.heap.size, 4, none⟩ = some (.int .i64 m.f4.f0) ∧ W.cell? ⟨w.heap.size, 5, none⟩ = some (.int .i64 m.f4.f1) ∧ W.cell? (ad.add (i * 4)) = some (.int .i64 x.f0) ∧ W.cell? ⟨(ad.add (i * 4)).block, (ad.add (i * 4)).off + 1, none⟩ = some (.int .i64 x.f1) ∧ W.cell? ⟨(ad.add (i * 4)).block, (ad.add (i * 4)).off + 2, none⟩ = some (.int .i64 x.f2) ∧ W.cell? ⟨(ad.add (i * 4)).block, (ad.add (i * 4)).off + 3, none⟩ = some (.int .i64 x.f3))
                    (refine HSC.out _ (by first | exact HW2.out | exact below_drew HW2.out | exact Below.refl _ _ | exact below_drew (Below.refl _ _) | exact pw_below_drewN (Below.refl _ _) _))
                    ((go_at_call 45; (with_reducible refine (HCnt.out _).mono ?_); rintro e w2 ⟨rfl, hb⟩; have HW2 : Aside0 (Below wr.heap.size wr w2) := ⟨by first | exact below_then (below_drew (Below.refl _ _)) (Nat.le_refl _) hb | exact below_then (pw_below_drewN (Below.refl _ _) _) (Nat.le_refl _) hb | exact hb⟩; clear hb))
                  all_goals go_wp2
                  all_goals go_meet
                  case rel => exact ⟨by rw [HCE.out, e1]; rfl, HW2⟩
            case rest =>
              obtain ⟨rfl, HWq⟩ := hcut
              have HWc := Aside0.mk (below_then HWi.out HWi.out.size HWq.out)
              have HS2 := Aside0.mk (HSC.out _ HWq.out)
              clear z0 z1 z2 z3 z4 z5 x0 x1 x2 x3 HSC BMr
              by_cases hck : countsB m known x = true ∧ fr ≤ x.f1
              · have e0 : (!(countsB m known x) || decide (x.f1 < fr)) = false := by rw [hck.1, decide_eq_false (by omega)]; rfl
                have HCK := Aside0.mk hck
                clear hck
                rw [e0]
                clear e0
                have x1 := HS2.out.2.2.2.2.2.2.2.2.1
                have x3 := HS2.out.2.2.2.2.2.2.2.2.2.2
                clear HS2
                go_upto_region 9 with (fail)
                rcases HBI.out with ⟨rfl, hbf⟩ | ⟨k, hk, rfl, hbf⟩
                · have HBT : Aside0 (BI m known fr l (i + 1) i) := ⟨HTake.out ⟨HCK.out.1, HCK.out.2, fun y hy => by rw [hbf] at hy; cases hy⟩⟩
                  clear HBI HKeep HTake hbf HCK HX
                  go_quiet (fail)
                  all_goals go_wp2
                  all_goals go_roundg (l.length - (i + 1))
                  case measure => have := HI.out; have := HLT.out; omega
                  case rel => exact ⟨i + 1, by go_num, ⟨by have := HLT.out; omega, rfl⟩, ⟨i, rfl, ⟨HBT.out⟩⟩, ⟨pw_below_drewN HWc.out _⟩⟩
                · obtain ⟨ad', e, y0, y1, y2, y3⟩ := at_T43 (Kd.C_below HR0.out (below_step HW.out.2 HWc.out)) (k : Int) (by omega) (by have := HLT.out; omega)
                  cases e
                  simp only [Int.toNat_natCast] at y0 y1 y2 y3
                  clear y0 y2
                  have e0 : decide ((k : Int) < 0) = false := decide_eq_false (by omega)
                  have k0 : (0 : Int) ≤ (k : Int) := by omega
                  have k1 : (k : Int) < (l.length : Int) := by have := HLT.out; omega
                  have HBetter : Aside0 (BetterR (bestF m known fr (l.take i)) x ↔ (x.f1 < (rd_T43 l (k : Int)).f1 ∨ x.f1 = (rd_T43 l (k : Int)).f1 ∧ (rd_T43 l (k : Int)).f3 ≤ x.f3)) := ⟨by
                    unfold BetterR
                    rw [hbf]
                    exact ⟨fun h => h _ rfl, fun h y hy => by cases hy; exact h⟩⟩
                  generalize rd_T43 l (k : Int) = y at *
                  clear hbf hk
                  by_cases hb1 : x.f1 < y.f1
                  · have e1 : decide (x.f1 < y.f1) = true := decide_eq_true hb1
                    have HBT : Aside0 (BI m known fr l (i + 1) i) := ⟨HTake.out ⟨HCK.out.1, HCK.out.2, HBetter.out.2 (.inl hb1)⟩⟩
                    clear HBI HKeep HTake HCK HX HBetter hb1
                    go_quiet (fail)
                    all_goals go_wp2
                    all_goals go_roundg (l.length - (i + 1))
                    case measure => have := HI.out; have := HLT.out; omega
                    case rel => exact ⟨i + 1, by go_num, ⟨by have := HLT.out; omega, rfl⟩, ⟨i, rfl, ⟨HBT.out⟩⟩, ⟨pw_below_drewN HWc.out _⟩⟩
                  · have e1 : decide (x.f1 < y.f1) = false := decide_eq_false hb1
                    by_cases hb2 : x.f1 = y.f1
                    · by_cases hb3 : y.f3 ≤ x.f3
                      · have e3 : decide (y.f3 ≤ x.f3) = true := decide_eq_true hb3
                        have HBT : Aside0 (BI m known fr l (i + 1) i) := ⟨HTake.out ⟨HCK.out.1, HCK.out.2, HBetter.out.2 (.inr ⟨hb2, hb3⟩)⟩⟩
                        rw [← hb2] at y1
                        have e1 : decide (x.f1 < x.f1) = false := decide_eq_false (Int.lt_irrefl _)
                        clear HBI HKeep HTake HCK HX HBetter hb1 hb2 hb3
                        go_quiet (fail)
                        all_goals go_wp2
                        all_goals go_roundg (l.length - (i + 1))
                        case measure => have := HI.out; have := HLT.out; omega
                        case rel => exact ⟨i + 1, by go_num, ⟨by have := HLT.out; omega, rfl⟩, ⟨i, rfl, ⟨HBT.out⟩⟩, ⟨pw_below_drewN HWc.out _⟩⟩
                      · have e3 : decide (y.f3 ≤ x.f3) = false := decide_eq_false hb3
                        have HBT : Aside0 (BI m known fr l (i + 1) k) := ⟨HKeep.out (fun h => (HBetter.out.1 h.2.2).elim (fun h => hb1 h) (fun h => hb3 h.2))⟩
                        rw [← hb2] at y1
                        have e1 : decide (x.f1 < x.f1) = false := decide_eq_false (Int.lt_irrefl _)
                        clear HBI HKeep HTake HCK HX HBetter hb1 hb2 hb3
                        go_quiet (fail)
                        all_goals go_wp2
                        all_goals go_roundg (l.length - (i + 1))
                        case measure => have := HI.out; have := HLT.out; omega
                        case rel => exact ⟨i + 1, by go_num, ⟨by have := HLT.out; omega, rfl⟩, ⟨k, rfl, ⟨HBT.out⟩⟩, ⟨pw_below_drewN HWc.out _⟩⟩
                    · have e2 : (x.f1 == y.f1) = false := beq_eq_false_iff_ne.2 hb2
                      have HBT : Aside0 (BI m known fr l (i + 1) k) := ⟨HKeep.out (fun h => (HBetter.out.1 h.2.2).elim (fun h => hb1 h) (fun h => hb2 h.1))⟩
                      clear HBI HKeep HTake HCK HX HBetter hb1 hb2
                      go_quiet (fail)
                      all_goals go_wp2
                      all_goals go_roundg (l.length - (i + 1))
                      case measure => have := HI.out; have := HLT.out; omega
                      case rel => exact ⟨i + 1, by go_num, ⟨by have := HLT.out; omega, rfl⟩, ⟨k, rfl, ⟨HBT.out⟩⟩, ⟨pw_below_drewN HWc.out _⟩⟩
              · have e0 : (!(countsB m known x) || decide (x.f1 < fr)) = true := by
                  cases hc : countsB m known x
                  · rfl
                  · rw [decide_eq_true (Int.not_le.1 (fun h => hck ⟨hc, h⟩))]; rfl
                have HK3 : Aside0 (BI m known fr l (i + 1) bi) := ⟨HKeep.out (fun h => hck ⟨h.1, h.2.1⟩)⟩
                rw [e0]
                clear e0 hck HS2 HKeep HTake
                go_wp2
                go_roundg (l.length - (i + 1))
                case measure => have := HI.out; have := HLT.out; omega
                case rel => exact ⟨i + 1, by go_num, ⟨by have := HLT.out; omega, rfl⟩, ⟨bi, rfl, ⟨HK3.out⟩⟩, HWc⟩
          · obtain rfl : i = l.length := by omega
            have g1 : decide ((l.length : Int) < (l.length : Int)) = false := decide_eq_false (by omega)
            have g2 : decide (l.length < l.length) = false := decide_eq_false (by omega)
            go_wp2
            go_meet
            case rel => exact ⟨bi, rfl, HBI, HWi⟩
      case rest =>
        obtain ⟨bi, rfl, HBI, HWi⟩ := hcut
        have HWc := Aside0.mk (below_step HW.out.2 HWi.out)
        rcases HBI.out with ⟨rfl, hbf⟩ | ⟨k, hk, rfl, hbf⟩
        · rw [List.take_length] at hbf
          have HE : Aside0 (j = (daysL m known l).length) := ⟨HJ.out.2.1.none hbf⟩
          have HOf := Aside0.mk (Kd.R_below HO.out HWi.out)
          clear hbf HBI
          go_wp2
          go_ret
          exact ⟨_, rfl, by have h := HOf.out; rwa [HE.out, ← HDL.out.2, List.take_length] at h, HWc.out⟩
        · rw [List.take_length] at hbf
          have HSm := Aside0.mk (HJ.out.2.1.some hbf)
          obtain ⟨ad, e, y0, y1, y2, y3⟩ := at_T43 HR0.out (k : Int) (by omega) (by omega)
          cases e
          simp only [Int.toNat_natCast] at y0 y1 y2 y3
          have Y1 := Aside0.mk y1
          replace y0 := (HWc.out.cell (World.block_lt_of_cell? w _ y0)).trans y0
          replace y1 := (HWc.out.cell (World.block_lt_of_cell? w _ y1)).trans y1
          replace y2 := (HWc.out.cell (World.block_lt_of_cell? w _ y2)).trans y2
          replace y3 := (HWc.out.cell (World.block_lt_of_cell? w _ y3)).trans y3
          have hyo := readingOk_bounds (HOK.out.2 _ (mem_rd (c := l) hk))
          have hfrle := (best_some _ hbf).2.1
          have e0 : decide ((k : Int) < 0) = false := decide_eq_false (by omega)
          have k0 : (0 : Int) ≤ (k : Int) := by omega
          have k1 : (k : Int) < (l.length : Int) := by omega
          have HYE0 : ∃ y, rd_T43 l (k : Int) = y := ⟨_, rfl⟩
          obtain ⟨y, hye⟩ := HYE0
          rw [hye] at y0 y1 y2 y3 hyo hfrle HSm hbf Y1
          have HYE := Aside0.mk hye
          clear hye
          have HOf := Aside0.mk (Kd.R_below HO.out HWi.out)
          have hsz := HWc.out.size
          have hw1 : IntKind.i64.wrap (y.f1 + 1) = y.f1 + 1 := Go.IntWalk.i64_in _ (by omega)
          have HLN : Aside0 ((((colL m known l).take j).length + 1) * 32 ≤ 140737488355328) := ⟨by
            have h1 := HDL.out
            rw [List.length_take]; omega⟩
          have HSZ : Aside0 (w.heap.size ≤ (wc.alloc (.cells #[.int .i64 y.f0, .int .i64 y.f1, .int .i64 y.f2, .int .i64 y.f3] 43)).heap.size) := ⟨by rw [World.size_alloc]; omega⟩
          have HBw := Aside0.mk (blk_below HW.out.1 HWi.out)
          clear hbf HBI HO
          generalize (colL m known l).take j = ys at *
          go_wp2_with (
            (with_reducible refine gate_builtin (b := .append) (xs := #[.tmp 87, .tmp 92]) rfl ?_)
            refine Kd.R_append_rows (d := k43) (Rr := k43.K (wc.alloc (.cells #[.int .i64 y.f0, .int .i64 y.f1, .int .i64 y.f2, .int .i64 y.f3] 43))) (w0 := w) (base := w.heap.size) (s := (.tmp 87)) (x := (.tmp 92)) (t := 27) (e := 43) (z := (.agg #[(.int .i64 0), (.int .i64 0), (.int .i64 0), (.int .i64 0)])) (bytes := 32) (v := u7) (xs := ys) (ys := [y]) (A := some ⟨wc.heap.size, 0, none⟩) (m := 1) (c := 1) (ok := fun _ => True) (okp := fun _ => False) ?a1 ?a2 ?a3 ?a4 ?a5 ?a6 ?a7 ?a8 ?a9 ?a10 ?a11 ?a12 ?a13 ?a14 ?a15 ?a16 ?a17 ?a18
            case a1 => rfl
            case a2 => rfl
            case a3 => exact Tryd.underlying27
            case a4 => exact info43
            case a5 => rfl
            case a6 => decide
            case a7 => omega
            case a8 => rfl
            case a9 => rfl
            case a10 => exact Kd.R_alloc HOf.out _
            case a11 => exact k43_one y (blk_new _ _)
            case a12 => exact fun y cs h => k43_KM _ _ y cs h
            case a13 => exact fun _ h => h.elim
            case a14 => exact fun _ _ => trivial
            case a15 => exact below_alloc HWc.out _
            case a16 => exact HSZ.out
            case a17 => exact HLN.out
            intro v2 w6 ho hb hg hat
            have HO6 := Aside0.mk ho
            have HB6 := Aside0.mk hb
            have HBM6 := Aside0.mk (blk_grown (blk_alloc HBw.out (.cells #[.int .i64 y.f0, .int .i64 y.f1, .int .i64 y.f2, .int .i64 y.f3] 43)) hg (Kd.R_ne (Kd.R_alloc HOf.out (.cells #[.int .i64 y.f0, .int .i64 y.f1, .int .i64 y.f2, .int .i64 y.f3] 43)) (blk_alloc HBw.out (.cells #[.int .i64 y.f0, .int .i64 y.f1, .int .i64 y.f2, .int .i64 y.f3] 43)) (by decide)))
            have u1 := (HB6.out.cell (World.block_lt_of_cell? w _ Y1.out)).trans Y1.out
            clear ho hb hg hat)
          go_roundg ((daysL m known l).length - (j + 1))
          case measure => have := HSm.out.1; have := HJ.out.1; omega
          case rel => exact ⟨j + 1, y.f1 + 1, rfl, ⟨rfl, HSm.out.2.1, by omega, by omega⟩, ⟨by rw [HSm.out.2.2.1]; exact HO6.out⟩, ⟨HBM6.out, HB6.out⟩⟩
    · have g1 : decide (fr ≤ m.f4.f1) = false := decide_eq_false hfu
      have HE : Aside0 (j = (daysL m known l).length) := ⟨HJ.out.2.1.end_ (by omega)⟩
      go_wp2
      go_ret
      exact ⟨_, rfl, by have h := HO.out; rwa [HE.out, ← HDL.out.2, List.take_length] at h, HW.out.2⟩
end Go.Proofs.YtknfkibnocfjiaaDoor.P
