/- What Valid of the reference implementation computes: validL. -/
import Derived.Test.YtknfkibnocfjiaaDoorGRBase
import Derived.Test.YtknfkibnocfjiaaDoorGRLast
namespace Go.Proofs.YtknfkibnocfjiaaDoor.P
open Go.RowKit Go.Proofs.YtknfkibnocfjiaaDoorW.PrintWords Go.Proofs.YtknfkibnocfjiaaDoorW.PrintLast Go.Proofs.YtknfkibnocfjiaaDoorW.PrintMore Go.Proofs.YtknfkibnocfjiaaDoor.M
set_option linter.unusedVariables false
set_option linter.unusedSimpArgs false
theorem vAt_val {l : List S25} {i : Nat} (h : validM (rd_T25 l (i : Int)) = false) : vAt l i = false := by unfold vAt; rw [h]; rfl
theorem vAt_zero {l : List S25} {i : Nat} (h : validM (rd_T25 l (i : Int)) = true) (h0 : i = 0) : vAt l i = true := by unfold vAt; rw [h, h0]; rfl
theorem vAt_pos {l : List S25} {i : Nat} (h : validM (rd_T25 l (i : Int)) = true) (h0 : i ≠ 0) : (!vAt l i) = decide ((rd_T25 l (i : Int)).f0 ≤ (rd_T25 l ((i - 1 : Nat) : Int)).f0) := by
  unfold vAt
  rw [h, beq_eq_false_iff_ne.2 h0, Bool.true_and, Bool.false_or]
  by_cases hle : (rd_T25 l (i : Int)).f0 ≤ (rd_T25 l ((i - 1 : Nat) : Int)).f0
  · rw [decide_eq_true hle, decide_eq_false (by omega)]; rfl
  · rw [decide_eq_false hle, decide_eq_true (by omega)]; rfl
set_option maxHeartbeats 32000000 in
set_option maxRecDepth 100000 in
theorem rvalid_calls (A0 : Option Addr) (c0 : Nat) (l : List S25) (b : Bool) (hb : validL l = b) (w : World) (hr0 : Kd.C k25 w A0 l.length l) (hc0 : l.length ≤ c0) :
    Calls Tryd.prog 16 #[.slice A0 l.length c0] w fun e w' => e = .returned (.bool b) ∧ Below w.heap.size w w' := by
  have hu25 := Tryd.underlying25
  have hu23 := Tryd.underlying23
  have HR0 := Aside0.mk hr0
  subst hb
  clear hr0
  by_cases hl : l.length ≤ 200
  · have g0 : decide ((200 : Int) < (l.length : Int)) = false := decide_eq_false (by omega)
    go_enter Tryd.func16, Tryd.ntmps16
    go_wp2
    clear g0
    go_loopg [3] l.length (fun gk v3 w' => ∃ i : Nat, v3 = .int .i64 (i : Int) ∧ Aside0 (i ≤ l.length ∧ gk = l.length - i) ∧ Aside0 (∀ j : Nat, j < i → vAt l j = true) ∧ Aside0 (Below w.heap.size w w'))
    case atStart => exact ⟨0, rfl, ⟨Nat.zero_le _, rfl⟩, ⟨fun j hj => absurd hj (Nat.not_lt_zero j)⟩, ⟨Below.refl _ _⟩⟩
    case round =>
      obtain ⟨i, rfl, HI, HD, HK⟩ := hrel
      have hi := HI.out.1
      by_cases hlt : i < l.length
      · obtain ⟨ad, e, x0, x1, x2, x3, x4, x5⟩ := at_T25 (Kd.C_below HR0.out HK.out) ((i : Nat) : Int) (by omega) (by omega)
        cases e
        simp only [Int.toNat_natCast] at x0 x1 x2 x3 x4 x5
        have HLT := Aside0.mk hlt
        have j1 : (i : Int) < (l.length : Int) := by omega
        have j2 : (0 : Int) ≤ (i : Int) := by omega
        have g1 : decide ((i : Int) < (l.length : Int)) = true := decide_eq_true j1
        have hw1 : IntKind.i64.wrap ((i : Int) + 1) = (i : Int) + 1 := Go.IntWalk.i64_in _ (by omega)
        go_upto_region 6 with (fail)
        clear g1
        go_cut [36] (fun v36 wd => v36 = .bool (!vAt l i) ∧ Aside0 (Below wr.heap.size wr wd))
        case first =>
          cases hv : validM (rd_T25 l (i : Int)) with
          | false =>
            have HV := Aside0.mk (vAt_val hv)
            have CM := Aside0.mk (qmeter_calls (rd_T25 l (i : Int)) false hv)
            generalize rd_T25 l (i : Int) = x at *
            have HSC := Aside0.mk (fun W (h : Below wr.heap.size wr W) => show Below wr.heap.size wr W ∧ W.cell? (ad.add (i * 6)) = some (.int .i64 x.f0) ∧ W.cell? ⟨(ad.add (i * 6)).block, (ad.add (i * 6)).off + 1, none⟩ = some (.int .i64 x.f1) ∧ W.cell? ⟨(ad.add (i * 6)).block, (ad.add (i * 6)).off + 2, none⟩ = some (.int .i64 x.f2) ∧ W.cell? ⟨(ad.add (i * 6)).block, (ad.add (i * 6)).off + 3, none⟩ = some (.int .i64 x.f3) ∧ W.cell? ⟨(ad.add (i * 6)).block, (ad.add (i * 6)).off + 4, none⟩ = some (.int .i64 x.f4.f0) ∧ W.cell? ⟨(ad.add (i * 6)).block, (ad.add (i * 6)).off + 5, none⟩ = some (.int .i64 x.f4.f1) from ⟨h, cell_on h x0, cell_on h x1, cell_on h x2, cell_on h x3, cell_on h x4, cell_on h x5⟩)
            clear hv x0 x1 x2 x3 x4 x5
            refine wp_region_any (by kernel_rfl) ?_
            refine wpAny_of_held (S := fun W => Below wr.heap.size wr W ∧ W.cell? (ad.add (i * 6)) = some (.int .i64 x.f0) ∧ W.cell? ⟨(ad.add (i * 6)).block, (ad.add (i * 6)).off + 1, none⟩ = some (.int .i64 x.f1) ∧ W.cell? ⟨(ad.add (i * 6)).block, (ad.add (i * 6)).off + 2, none⟩ = some (.int .i64 x.f2) ∧ W.cell? ⟨(ad.add (i * 6)).block, (ad.add (i * 6)).off + 3, none⟩ = some (.int .i64 x.f3) ∧ W.cell? ⟨(ad.add (i * 6)).block, (ad.add (i * 6)).off + 4, none⟩ = some (.int .i64 x.f4.f0) ∧ W.cell? ⟨(ad.add (i * 6)).block, (ad.add (i * 6)).off + 5, none⟩ = some (.int .i64 x.f4.f1)) _ _ _ _ ?_
            show wpAnyH _ _ _ _ _ 24 (Array.replicate 24 false) _ wr.drew
            have HS := HSC.out wr.drew (below_drew (Below.refl _ _))
            refine take_held (v := .slice (some ad) l.length c0) 0 rfl (by kernel_rfl) (by kernel_rfl) (by kernel_rfl) (fun _ _ _ h => h) (by rfl) HS (fun w9 h9 => ?hy) ?_
            case hy => (skip; go_simp)
            try simp only [Act.put, List.setIfInBounds_toArray, List.set_cons_zero, List.set_cons_succ]
            refine take_held (v := .int .i64 (i : Int)) 1 rfl (by kernel_rfl) (by kernel_rfl) (by kernel_rfl) (fun _ _ _ h => h) (by rfl) HS (fun w9 h9 => ?hy) ?_
            case hy => (skip; go_simp)
            try simp only [Act.put, List.setIfInBounds_toArray, List.set_cons_zero, List.set_cons_succ]
            refine take_held (v := .pointer (some (ad.add (i * 6)))) 2 rfl (by kernel_rfl) (by kernel_rfl) (by kernel_rfl) (fun _ _ _ h => h) (by rfl) HS (fun w9 h9 => ?hy) ?_
            case hy => (skip; go_simp)
            try simp only [Act.put, List.setIfInBounds_toArray, List.set_cons_zero, List.set_cons_succ]
            refine take_held (v := .agg #[.int .i64 x.f0, .int .i64 x.f1, .int .i64 x.f2, .int .i64 x.f3, .int .i64 x.f4.f0, .int .i64 x.f4.f1]) 3 rfl (by kernel_rfl) (by kernel_rfl) (by kernel_rfl) (fun _ _ _ h => h) (by rfl) HS (fun w9 h9 => ?hy) ?_
            case hy => (obtain ⟨_, q0, q1, q2, q3, q4, q5⟩ := h9; go_simp)
            try simp only [Act.put, List.setIfInBounds_toArray, List.set_cons_zero, List.set_cons_succ]
            refine only_held 4 rfl (by kernel_rfl) (fun K hK => ?_)
            rw [if_pos (by rfl)]
            go_simp
            go_at_call 31
            (with_reducible refine (CM.out _).mono ?_)
            rintro e w3 ⟨rfl, hb⟩
            have HW := Aside0.mk (below_then (below_drew (Below.refl wr.heap.size wr)) (Nat.le_refl _) hb)
            clear hb
            replace HS := HSC.out _ HW.out
            refine hK.out _ _ HS ?_
            try simp only [Act.put, List.setIfInBounds_toArray, List.set_cons_zero, List.set_cons_succ]
            clear hK K
            refine take_held (v := .bool true) 5 rfl (by kernel_rfl) (by kernel_rfl) (by kernel_rfl) (fun _ _ _ h => h) (by rfl) HS (fun w9 h9 => ?hy) ?_
            case hy => (skip; go_simp)
            try simp only [Act.put, List.setIfInBounds_toArray, List.set_cons_zero, List.set_cons_succ]
            refine take_held (v := .bool true) 6 rfl (by kernel_rfl) (by kernel_rfl) (by kernel_rfl) (fun _ _ _ h => h) (by rfl) HS (fun w9 h9 => ?hy) ?_
            case hy => (skip; go_simp)
            try simp only [Act.put, List.setIfInBounds_toArray, List.set_cons_zero, List.set_cons_succ]
            refine skip_held 7 rfl (by kernel_rfl) (by kernel_rfl) (by kernel_rfl) (fun _ _ _ h => h) (by rfl) HS ?_
            try simp only [Act.put, List.setIfInBounds_toArray, List.set_cons_zero, List.set_cons_succ]
            refine skip_held 8 rfl (by kernel_rfl) (by kernel_rfl) (by kernel_rfl) (fun _ _ _ h => h) (by rfl) HS ?_
            try simp only [Act.put, List.setIfInBounds_toArray, List.set_cons_zero, List.set_cons_succ]
            refine skip_held 9 rfl (by kernel_rfl) (by kernel_rfl) (by kernel_rfl) (fun _ _ _ h => h) (by rfl) HS ?_
            try simp only [Act.put, List.setIfInBounds_toArray, List.set_cons_zero, List.set_cons_succ]
            refine skip_held 10 rfl (by kernel_rfl) (by kernel_rfl) (by kernel_rfl) (fun _ _ _ h => h) (by rfl) HS ?_
            try simp only [Act.put, List.setIfInBounds_toArray, List.set_cons_zero, List.set_cons_succ]
            refine skip_held 11 rfl (by kernel_rfl) (by kernel_rfl) (by kernel_rfl) (fun _ _ _ h => h) (by rfl) HS ?_
            try simp only [Act.put, List.setIfInBounds_toArray, List.set_cons_zero, List.set_cons_succ]
            refine skip_held 12 rfl (by kernel_rfl) (by kernel_rfl) (by kernel_rfl) (fun _ _ _ h => h) (by rfl) HS ?_
            try simp only [Act.put, List.setIfInBounds_toArray, List.set_cons_zero, List.set_cons_succ]
            refine skip_held 13 rfl (by kernel_rfl) (by kernel_rfl) (by kernel_rfl) (fun _ _ _ h => h) (by rfl) HS ?_
            try simp only [Act.put, List.setIfInBounds_toArray, List.set_cons_zero, List.set_cons_succ]
            refine skip_held 14 rfl (by kernel_rfl) (by kernel_rfl) (by kernel_rfl) (fun _ _ _ h => h) (by rfl) HS ?_
            try simp only [Act.put, List.setIfInBounds_toArray, List.set_cons_zero, List.set_cons_succ]
            refine skip_held 15 rfl (by kernel_rfl) (by kernel_rfl) (by kernel_rfl) (fun _ _ _ h => h) (by rfl) HS ?_
            try simp only [Act.put, List.setIfInBounds_toArray, List.set_cons_zero, List.set_cons_succ]
            refine skip_held 16 rfl (by kernel_rfl) (by kernel_rfl) (by kernel_rfl) (fun _ _ _ h => h) (by rfl) HS ?_
            try simp only [Act.put, List.setIfInBounds_toArray, List.set_cons_zero, List.set_cons_succ]
            refine skip_held 17 rfl (by kernel_rfl) (by kernel_rfl) (by kernel_rfl) (fun _ _ _ h => h) (by rfl) HS ?_
            try simp only [Act.put, List.setIfInBounds_toArray, List.set_cons_zero, List.set_cons_succ]
            refine skip_held 18 rfl (by kernel_rfl) (by kernel_rfl) (by kernel_rfl) (fun _ _ _ h => h) (by rfl) HS ?_
            try simp only [Act.put, List.setIfInBounds_toArray, List.set_cons_zero, List.set_cons_succ]
            refine skip_held 19 rfl (by kernel_rfl) (by kernel_rfl) (by kernel_rfl) (fun _ _ _ h => h) (by rfl) HS ?_
            try simp only [Act.put, List.setIfInBounds_toArray, List.set_cons_zero, List.set_cons_succ]
            refine skip_held 20 rfl (by kernel_rfl) (by kernel_rfl) (by kernel_rfl) (fun _ _ _ h => h) (by rfl) HS ?_
            try simp only [Act.put, List.setIfInBounds_toArray, List.set_cons_zero, List.set_cons_succ]
            refine skip_held 21 rfl (by kernel_rfl) (by kernel_rfl) (by kernel_rfl) (fun _ _ _ h => h) (by rfl) HS ?_
            try simp only [Act.put, List.setIfInBounds_toArray, List.set_cons_zero, List.set_cons_succ]
            refine skip_held 22 rfl (by kernel_rfl) (by kernel_rfl) (by kernel_rfl) (fun _ _ _ h => h) (by rfl) HS ?_
            try simp only [Act.put, List.setIfInBounds_toArray, List.set_cons_zero, List.set_cons_succ]
            refine take_held (v := .bool true) 23 rfl (by kernel_rfl) (by kernel_rfl) (by kernel_rfl) (fun _ _ _ h => h) (by rfl) HS (fun w9 h9 => ?hy) ?_
            case hy => (skip; go_simp)
            try simp only [Act.put, List.setIfInBounds_toArray, List.set_cons_zero, List.set_cons_succ]
            refine done_held (by kernel_rfl) ?_
            go_wp2
            go_meet
            case rel => exact ⟨by rw [HV.out]; rfl, HW⟩
          | true =>
            by_cases h0 : i = 0
            · have HV := Aside0.mk (vAt_zero hv h0)
              have CM := Aside0.mk (qmeter_calls (rd_T25 l (i : Int)) true hv)
              generalize rd_T25 l (i : Int) = x at *
              have HSC := Aside0.mk (fun W (h : Below wr.heap.size wr W) => show Below wr.heap.size wr W ∧ W.cell? (ad.add (i * 6)) = some (.int .i64 x.f0) ∧ W.cell? ⟨(ad.add (i * 6)).block, (ad.add (i * 6)).off + 1, none⟩ = some (.int .i64 x.f1) ∧ W.cell? ⟨(ad.add (i * 6)).block, (ad.add (i * 6)).off + 2, none⟩ = some (.int .i64 x.f2) ∧ W.cell? ⟨(ad.add (i * 6)).block, (ad.add (i * 6)).off + 3, none⟩ = some (.int .i64 x.f3) ∧ W.cell? ⟨(ad.add (i * 6)).block, (ad.add (i * 6)).off + 4, none⟩ = some (.int .i64 x.f4.f0) ∧ W.cell? ⟨(ad.add (i * 6)).block, (ad.add (i * 6)).off + 5, none⟩ = some (.int .i64 x.f4.f1) from ⟨h, cell_on h x0, cell_on h x1, cell_on h x2, cell_on h x3, cell_on h x4, cell_on h x5⟩)
              have j4 : decide ((0 : Int) < (i : Int)) = false := decide_eq_false (by omega)
              have j5 : ¬ ((0 : Int) < (i : Int)) := by omega
              have j6 : ¬ (0 < i) := by omega
              clear hv x0 x1 x2 x3 x4 x5 h0
              refine wp_region_any (by kernel_rfl) ?_
              refine wpAny_of_held (S := fun W => Below wr.heap.size wr W ∧ W.cell? (ad.add (i * 6)) = some (.int .i64 x.f0) ∧ W.cell? ⟨(ad.add (i * 6)).block, (ad.add (i * 6)).off + 1, none⟩ = some (.int .i64 x.f1) ∧ W.cell? ⟨(ad.add (i * 6)).block, (ad.add (i * 6)).off + 2, none⟩ = some (.int .i64 x.f2) ∧ W.cell? ⟨(ad.add (i * 6)).block, (ad.add (i * 6)).off + 3, none⟩ = some (.int .i64 x.f3) ∧ W.cell? ⟨(ad.add (i * 6)).block, (ad.add (i * 6)).off + 4, none⟩ = some (.int .i64 x.f4.f0) ∧ W.cell? ⟨(ad.add (i * 6)).block, (ad.add (i * 6)).off + 5, none⟩ = some (.int .i64 x.f4.f1)) _ _ _ _ ?_
              show wpAnyH _ _ _ _ _ 24 (Array.replicate 24 false) _ wr.drew
              have HS := HSC.out wr.drew (below_drew (Below.refl _ _))
              refine take_held (v := .slice (some ad) l.length c0) 0 rfl (by kernel_rfl) (by kernel_rfl) (by kernel_rfl) (fun _ _ _ h => h) (by rfl) HS (fun w9 h9 => ?hy) ?_
              case hy => (skip; go_simp)
              try simp only [Act.put, List.setIfInBounds_toArray, List.set_cons_zero, List.set_cons_succ]
              refine take_held (v := .int .i64 (i : Int)) 1 rfl (by kernel_rfl) (by kernel_rfl) (by kernel_rfl) (fun _ _ _ h => h) (by rfl) HS (fun w9 h9 => ?hy) ?_
              case hy => (skip; go_simp)
              try simp only [Act.put, List.setIfInBounds_toArray, List.set_cons_zero, List.set_cons_succ]
              refine take_held (v := .pointer (some (ad.add (i * 6)))) 2 rfl (by kernel_rfl) (by kernel_rfl) (by kernel_rfl) (fun _ _ _ h => h) (by rfl) HS (fun w9 h9 => ?hy) ?_
              case hy => (skip; go_simp)
              try simp only [Act.put, List.setIfInBounds_toArray, List.set_cons_zero, List.set_cons_succ]
              refine take_held (v := .agg #[.int .i64 x.f0, .int .i64 x.f1, .int .i64 x.f2, .int .i64 x.f3, .int .i64 x.f4.f0, .int .i64 x.f4.f1]) 3 rfl (by kernel_rfl) (by kernel_rfl) (by kernel_rfl) (fun _ _ _ h => h) (by rfl) HS (fun w9 h9 => ?hy) ?_
              case hy => (obtain ⟨_, q0, q1, q2, q3, q4, q5⟩ := h9; go_simp)
              try simp only [Act.put, List.setIfInBounds_toArray, List.set_cons_zero, List.set_cons_succ]
              refine only_held 4 rfl (by kernel_rfl) (fun K hK => ?_)
              rw [if_pos (by rfl)]
              go_simp
              go_at_call 31
              (with_reducible refine (CM.out _).mono ?_)
              rintro e w3 ⟨rfl, hb⟩
              have HW := Aside0.mk (below_then (below_drew (Below.refl wr.heap.size wr)) (Nat.le_refl _) hb)
              clear hb
              replace HS := HSC.out _ HW.out
              refine hK.out _ _ HS ?_
              try simp only [Act.put, List.setIfInBounds_toArray, List.set_cons_zero, List.set_cons_succ]
              clear hK K
              refine take_held (v := .bool false) 5 rfl (by kernel_rfl) (by kernel_rfl) (by kernel_rfl) (fun _ _ _ h => h) (by rfl) HS (fun w9 h9 => ?hy) ?_
              case hy => (skip; go_simp)
              try simp only [Act.put, List.setIfInBounds_toArray, List.set_cons_zero, List.set_cons_succ]
              refine take_held (v := .bool false) 6 rfl (by kernel_rfl) (by kernel_rfl) (by kernel_rfl) (fun _ _ _ h => h) (by rfl) HS (fun w9 h9 => ?hy) ?_
              case hy => (skip; go_simp)
              try simp only [Act.put, List.setIfInBounds_toArray, List.set_cons_zero, List.set_cons_succ]
              refine take_held (v := .int .i64 (i : Int)) 7 rfl (by kernel_rfl) (by kernel_rfl) (by kernel_rfl) (fun _ _ _ h => h) (by rfl) HS (fun w9 h9 => ?hy) ?_
              case hy => (skip; go_simp)
              try simp only [Act.put, List.setIfInBounds_toArray, List.set_cons_zero, List.set_cons_succ]
              refine take_held (v := .bool false) 8 rfl (by kernel_rfl) (by kernel_rfl) (by kernel_rfl) (fun _ _ _ h => h) (by rfl) HS (fun w9 h9 => ?hy) ?_
              case hy => (skip; go_simp)
              try simp only [Act.put, List.setIfInBounds_toArray, List.set_cons_zero, List.set_cons_succ]
              refine take_held (v := .bool false) 9 rfl (by kernel_rfl) (by kernel_rfl) (by kernel_rfl) (fun _ _ _ h => h) (by rfl) HS (fun w9 h9 => ?hy) ?_
              case hy => (skip; go_simp)
              try simp only [Act.put, List.setIfInBounds_toArray, List.set_cons_zero, List.set_cons_succ]
              refine skip_held 10 rfl (by kernel_rfl) (by kernel_rfl) (by kernel_rfl) (fun _ _ _ h => h) (by rfl) HS ?_
              try simp only [Act.put, List.setIfInBounds_toArray, List.set_cons_zero, List.set_cons_succ]
              refine skip_held 11 rfl (by kernel_rfl) (by kernel_rfl) (by kernel_rfl) (fun _ _ _ h => h) (by rfl) HS ?_
              try simp only [Act.put, List.setIfInBounds_toArray, List.set_cons_zero, List.set_cons_succ]
              refine skip_held 12 rfl (by kernel_rfl) (by kernel_rfl) (by kernel_rfl) (fun _ _ _ h => h) (by rfl) HS ?_
              try simp only [Act.put, List.setIfInBounds_toArray, List.set_cons_zero, List.set_cons_succ]
              refine skip_held 13 rfl (by kernel_rfl) (by kernel_rfl) (by kernel_rfl) (fun _ _ _ h => h) (by rfl) HS ?_
              try simp only [Act.put, List.setIfInBounds_toArray, List.set_cons_zero, List.set_cons_succ]
              refine skip_held 14 rfl (by kernel_rfl) (by kernel_rfl) (by kernel_rfl) (fun _ _ _ h => h) (by rfl) HS ?_
              try simp only [Act.put, List.setIfInBounds_toArray, List.set_cons_zero, List.set_cons_succ]
              refine skip_held 15 rfl (by kernel_rfl) (by kernel_rfl) (by kernel_rfl) (fun _ _ _ h => h) (by rfl) HS ?_
              try simp only [Act.put, List.setIfInBounds_toArray, List.set_cons_zero, List.set_cons_succ]
              refine skip_held 16 rfl (by kernel_rfl) (by kernel_rfl) (by kernel_rfl) (fun _ _ _ h => h) (by rfl) HS ?_
              try simp only [Act.put, List.setIfInBounds_toArray, List.set_cons_zero, List.set_cons_succ]
              refine skip_held 17 rfl (by kernel_rfl) (by kernel_rfl) (by kernel_rfl) (fun _ _ _ h => h) (by rfl) HS ?_
              try simp only [Act.put, List.setIfInBounds_toArray, List.set_cons_zero, List.set_cons_succ]
              refine skip_held 18 rfl (by kernel_rfl) (by kernel_rfl) (by kernel_rfl) (fun _ _ _ h => h) (by rfl) HS ?_
              try simp only [Act.put, List.setIfInBounds_toArray, List.set_cons_zero, List.set_cons_succ]
              refine skip_held 19 rfl (by kernel_rfl) (by kernel_rfl) (by kernel_rfl) (fun _ _ _ h => h) (by rfl) HS ?_
              try simp only [Act.put, List.setIfInBounds_toArray, List.set_cons_zero, List.set_cons_succ]
              refine skip_held 20 rfl (by kernel_rfl) (by kernel_rfl) (by kernel_rfl) (fun _ _ _ h => h) (by rfl) HS ?_
              try simp only [Act.put, List.setIfInBounds_toArray, List.set_cons_zero, List.set_cons_succ]
              refine skip_held 21 rfl (by kernel_rfl) (by kernel_rfl) (by kernel_rfl) (fun _ _ _ h => h) (by rfl) HS ?_
              try simp only [Act.put, List.setIfInBounds_toArray, List.set_cons_zero, List.set_cons_succ]
              refine take_held (v := .bool false) 22 rfl (by kernel_rfl) (by kernel_rfl) (by kernel_rfl) (fun _ _ _ h => h) (by rfl) HS (fun w9 h9 => ?hy) ?_
              case hy => (skip; go_simp)
              try simp only [Act.put, List.setIfInBounds_toArray, List.set_cons_zero, List.set_cons_succ]
              refine take_held (v := .bool false) 23 rfl (by kernel_rfl) (by kernel_rfl) (by kernel_rfl) (fun _ _ _ h => h) (by rfl) HS (fun w9 h9 => ?hy) ?_
              case hy => (skip; go_simp)
              try simp only [Act.put, List.setIfInBounds_toArray, List.set_cons_zero, List.set_cons_succ]
              refine done_held (by kernel_rfl) ?_
              go_wp2
              go_meet
              case rel => exact ⟨by rw [HV.out]; rfl, HW⟩
            · have HV := Aside0.mk (vAt_pos hv h0)
              have CM := Aside0.mk (qmeter_calls (rd_T25 l (i : Int)) true hv)
              obtain ⟨ad', e, y, _⟩ := at_T25 (Kd.C_below HR0.out HK.out) ((i - 1 : Nat) : Int) (by omega) (by omega)
              cases e
              simp only [Int.toNat_natCast] at y
              generalize (rd_T25 l ((i - 1 : Nat) : Int)).f0 = y0 at *
              generalize rd_T25 l (i : Int) = x at *
              have HSC := Aside0.mk (fun W (h : Below wr.heap.size wr W) => show Below wr.heap.size wr W ∧ W.cell? (ad.add (i * 6)) = some (.int .i64 x.f0) ∧ W.cell? ⟨(ad.add (i * 6)).block, (ad.add (i * 6)).off + 1, none⟩ = some (.int .i64 x.f1) ∧ W.cell? ⟨(ad.add (i * 6)).block, (ad.add (i * 6)).off + 2, none⟩ = some (.int .i64 x.f2) ∧ W.cell? ⟨(ad.add (i * 6)).block, (ad.add (i * 6)).off + 3, none⟩ = some (.int .i64 x.f3) ∧ W.cell? ⟨(ad.add (i * 6)).block, (ad.add (i * 6)).off + 4, none⟩ = some (.int .i64 x.f4.f0) ∧ W.cell? ⟨(ad.add (i * 6)).block, (ad.add (i * 6)).off + 5, none⟩ = some (.int .i64 x.f4.f1) ∧ W.cell? (ad.add ((i - 1) * 6)) = some (.int .i64 y0) from ⟨h, cell_on h x0, cell_on h x1, cell_on h x2, cell_on h x3, cell_on h x4, cell_on h x5, cell_on h y⟩)
              have j4 : decide ((0 : Int) < (i : Int)) = true := decide_eq_true (by omega)
              have j5 : ¬ ((i : Int) < 1) := by omega
              have j6 : 0 < i := by omega
              have j7 : (0 : Int) ≤ (i : Int) - 1 := by omega
              have j8 : (i : Int) - 1 < (l.length : Int) := by omega
              have hti : ((i : Int) - 1).toNat = i - 1 := by omega
              have hw2 : IntKind.i64.wrap ((i : Int) - 1) = (i : Int) - 1 := Go.IntWalk.i64_in _ (by omega)
              clear hv x0 x1 x2 x3 x4 x5 h0 y
              refine wp_region_any (by kernel_rfl) ?_
              refine wpAny_of_held (S := fun W => Below wr.heap.size wr W ∧ W.cell? (ad.add (i * 6)) = some (.int .i64 x.f0) ∧ W.cell? ⟨(ad.add (i * 6)).block, (ad.add (i * 6)).off + 1, none⟩ = some (.int .i64 x.f1) ∧ W.cell? ⟨(ad.add (i * 6)).block, (ad.add (i * 6)).off + 2, none⟩ = some (.int .i64 x.f2) ∧ W.cell? ⟨(ad.add (i * 6)).block, (ad.add (i * 6)).off + 3, none⟩ = some (.int .i64 x.f3) ∧ W.cell? ⟨(ad.add (i * 6)).block, (ad.add (i * 6)).off + 4, none⟩ = some (.int .i64 x.f4.f0) ∧ W.cell? ⟨(ad.add (i * 6)).block, (ad.add (i * 6)).off + 5, none⟩ = some (.int .i64 x.f4.f1) ∧ W.cell? (ad.add ((i - 1) * 6)) = some (.int .i64 y0)) _ _ _ _ ?_
              show wpAnyH _ _ _ _ _ 24 (Array.replicate 24 false) _ wr.drew
              have HS := HSC.out wr.drew (below_drew (Below.refl _ _))
              refine take_held (v := .slice (some ad) l.length c0) 0 rfl (by kernel_rfl) (by kernel_rfl) (by kernel_rfl) (fun _ _ _ h => h) (by rfl) HS (fun w9 h9 => ?hy) ?_
              case hy => (skip; go_simp)
              try simp only [Act.put, List.setIfInBounds_toArray, List.set_cons_zero, List.set_cons_succ]
              refine take_held (v := .int .i64 (i : Int)) 1 rfl (by kernel_rfl) (by kernel_rfl) (by kernel_rfl) (fun _ _ _ h => h) (by rfl) HS (fun w9 h9 => ?hy) ?_
              case hy => (skip; go_simp)
              try simp only [Act.put, List.setIfInBounds_toArray, List.set_cons_zero, List.set_cons_succ]
              refine take_held (v := .pointer (some (ad.add (i * 6)))) 2 rfl (by kernel_rfl) (by kernel_rfl) (by kernel_rfl) (fun _ _ _ h => h) (by rfl) HS (fun w9 h9 => ?hy) ?_
              case hy => (skip; go_simp)
              try simp only [Act.put, List.setIfInBounds_toArray, List.set_cons_zero, List.set_cons_succ]
              refine take_held (v := .agg #[.int .i64 x.f0, .int .i64 x.f1, .int .i64 x.f2, .int .i64 x.f3, .int .i64 x.f4.f0, .int .i64 x.f4.f1]) 3 rfl (by kernel_rfl) (by kernel_rfl) (by kernel_rfl) (fun _ _ _ h => h) (by rfl) HS (fun w9 h9 => ?hy) ?_
              case hy => (obtain ⟨_, q0, q1, q2, q3, q4, q5, _⟩ := h9; go_simp)
              try simp only [Act.put, List.setIfInBounds_toArray, List.set_cons_zero, List.set_cons_succ]
              refine only_held 4 rfl (by kernel_rfl) (fun K hK => ?_)
              rw [if_pos (by rfl)]
              go_simp
              go_at_call 31
              (with_reducible refine (CM.out _).mono ?_)
              rintro e w3 ⟨rfl, hb⟩
              have HW := Aside0.mk (below_then (below_drew (Below.refl wr.heap.size wr)) (Nat.le_refl _) hb)
              clear hb
              replace HS := HSC.out _ HW.out
              refine hK.out _ _ HS ?_
              try simp only [Act.put, List.setIfInBounds_toArray, List.set_cons_zero, List.set_cons_succ]
              clear hK K
              refine take_held (v := .bool false) 5 rfl (by kernel_rfl) (by kernel_rfl) (by kernel_rfl) (fun _ _ _ h => h) (by rfl) HS (fun w9 h9 => ?hy) ?_
              case hy => (skip; go_simp)
              try simp only [Act.put, List.setIfInBounds_toArray, List.set_cons_zero, List.set_cons_succ]
              refine take_held (v := .bool false) 6 rfl (by kernel_rfl) (by kernel_rfl) (by kernel_rfl) (fun _ _ _ h => h) (by rfl) HS (fun w9 h9 => ?hy) ?_
              case hy => (skip; go_simp)
              try simp only [Act.put, List.setIfInBounds_toArray, List.set_cons_zero, List.set_cons_succ]
              refine take_held (v := .int .i64 (i : Int)) 7 rfl (by kernel_rfl) (by kernel_rfl) (by kernel_rfl) (fun _ _ _ h => h) (by rfl) HS (fun w9 h9 => ?hy) ?_
              case hy => (skip; go_simp)
              try simp only [Act.put, List.setIfInBounds_toArray, List.set_cons_zero, List.set_cons_succ]
              refine take_held (v := .bool true) 8 rfl (by kernel_rfl) (by kernel_rfl) (by kernel_rfl) (fun _ _ _ h => h) (by rfl) HS (fun w9 h9 => ?hy) ?_
              case hy => (skip; go_simp)
              try simp only [Act.put, List.setIfInBounds_toArray, List.set_cons_zero, List.set_cons_succ]
              refine take_held (v := .bool true) 9 rfl (by kernel_rfl) (by kernel_rfl) (by kernel_rfl) (fun _ _ _ h => h) (by rfl) HS (fun w9 h9 => ?hy) ?_
              case hy => (skip; go_simp)
              try simp only [Act.put, List.setIfInBounds_toArray, List.set_cons_zero, List.set_cons_succ]
              refine take_held (v := .slice (some ad) l.length c0) 10 rfl (by kernel_rfl) (by kernel_rfl) (by kernel_rfl) (fun _ _ _ h => h) (by rfl) HS (fun w9 h9 => ?hy) ?_
              case hy => (skip; go_simp)
              try simp only [Act.put, List.setIfInBounds_toArray, List.set_cons_zero, List.set_cons_succ]
              refine take_held (v := .int .i64 (i : Int)) 11 rfl (by kernel_rfl) (by kernel_rfl) (by kernel_rfl) (fun _ _ _ h => h) (by rfl) HS (fun w9 h9 => ?hy) ?_
              case hy => (skip; go_simp)
              try simp only [Act.put, List.setIfInBounds_toArray, List.set_cons_zero, List.set_cons_succ]
              refine take_held (v := .pointer (some (ad.add (i * 6)))) 12 rfl (by kernel_rfl) (by kernel_rfl) (by kernel_rfl) (fun _ _ _ h => h) (by rfl) HS (fun w9 h9 => ?hy) ?_
              case hy => (skip; go_simp)
              try simp only [Act.put, List.setIfInBounds_toArray, List.set_cons_zero, List.set_cons_succ]
              refine take_held (v := .pointer (some (ad.add (i * 6)))) 13 rfl (by kernel_rfl) (by kernel_rfl) (by kernel_rfl) (fun _ _ _ h => h) (by rfl) HS (fun w9 h9 => ?hy) ?_
              case hy => (skip; go_simp)
              try simp only [Act.put, List.setIfInBounds_toArray, List.set_cons_zero, List.set_cons_succ]
              refine take_held (v := .int .i64 x.f0) 14 rfl (by kernel_rfl) (by kernel_rfl) (by kernel_rfl) (fun _ _ _ h => h) (by rfl) HS (fun w9 h9 => ?hy) ?_
              case hy => (obtain ⟨_, q0, q1, q2, q3, q4, q5, _⟩ := h9; go_simp)
              try simp only [Act.put, List.setIfInBounds_toArray, List.set_cons_zero, List.set_cons_succ]
              refine take_held (v := .slice (some ad) l.length c0) 15 rfl (by kernel_rfl) (by kernel_rfl) (by kernel_rfl) (fun _ _ _ h => h) (by rfl) HS (fun w9 h9 => ?hy) ?_
              case hy => (skip; go_simp)
              try simp only [Act.put, List.setIfInBounds_toArray, List.set_cons_zero, List.set_cons_succ]
              refine take_held (v := .int .i64 (i : Int)) 16 rfl (by kernel_rfl) (by kernel_rfl) (by kernel_rfl) (fun _ _ _ h => h) (by rfl) HS (fun w9 h9 => ?hy) ?_
              case hy => (skip; go_simp)
              try simp only [Act.put, List.setIfInBounds_toArray, List.set_cons_zero, List.set_cons_succ]
              refine take_held (v := .int .i64 ((i : Int) - 1)) 17 rfl (by kernel_rfl) (by kernel_rfl) (by kernel_rfl) (fun _ _ _ h => h) (by rfl) HS (fun w9 h9 => ?hy) ?_
              case hy => (skip; go_simp)
              try simp only [Act.put, List.setIfInBounds_toArray, List.set_cons_zero, List.set_cons_succ]
              refine take_held (v := .pointer (some (ad.add ((i - 1) * 6)))) 18 rfl (by kernel_rfl) (by kernel_rfl) (by kernel_rfl) (fun _ _ _ h => h) (by rfl) HS (fun w9 h9 => ?hy) ?_
              case hy => (skip; go_simp)
              try simp only [Act.put, List.setIfInBounds_toArray, List.set_cons_zero, List.set_cons_succ]
              refine take_held (v := .pointer (some (ad.add ((i - 1) * 6)))) 19 rfl (by kernel_rfl) (by kernel_rfl) (by kernel_rfl) (fun _ _ _ h => h) (by rfl) HS (fun w9 h9 => ?hy) ?_
              case hy => (skip; go_simp)
              try simp only [Act.put, List.setIfInBounds_toArray, List.set_cons_zero, List.set_cons_succ]
              refine take_held (v := .int .i64 y0) 20 rfl (by kernel_rfl) (by kernel_rfl) (by kernel_rfl) (fun _ _ _ h => h) (by rfl) HS (fun w9 h9 => ?hy) ?_
              case hy => (obtain ⟨_, q0, q1, q2, q3, q4, q5, q6⟩ := h9; go_simp)
              try simp only [Act.put, List.setIfInBounds_toArray, List.set_cons_zero, List.set_cons_succ]
              refine take_held (v := .bool (decide (x.f0 ≤ y0))) 21 rfl (by kernel_rfl) (by kernel_rfl) (by kernel_rfl) (fun _ _ _ h => h) (by rfl) HS (fun w9 h9 => ?hy) ?_
              case hy => (skip; go_simp)
              try simp only [Act.put, List.setIfInBounds_toArray, List.set_cons_zero, List.set_cons_succ]
              refine take_held (v := .bool (decide (x.f0 ≤ y0))) 22 rfl (by kernel_rfl) (by kernel_rfl) (by kernel_rfl) (fun _ _ _ h => h) (by rfl) HS (fun w9 h9 => ?hy) ?_
              case hy => (skip; go_simp)
              try simp only [Act.put, List.setIfInBounds_toArray, List.set_cons_zero, List.set_cons_succ]
              refine take_held (v := .bool (decide (x.f0 ≤ y0))) 23 rfl (by kernel_rfl) (by kernel_rfl) (by kernel_rfl) (fun _ _ _ h => h) (by rfl) HS (fun w9 h9 => ?hy) ?_
              case hy => (skip; go_simp)
              try simp only [Act.put, List.setIfInBounds_toArray, List.set_cons_zero, List.set_cons_succ]
              refine done_held (by kernel_rfl) ?_
              go_wp2
              go_meet
              case rel => exact ⟨by rw [HV.out], HW⟩
        case rest =>
          obtain ⟨rfl, HWq⟩ := hcut
          clear x0 x1 x2 x3 x4 x5
          have HKc := Aside0.mk (below_step HK.out HWq.out)
          cases hv : vAt l i with
          | false =>
            have hno : validL l = false := by
              unfold validL
              rw [show (List.range l.length).all (vAt l) = false from List.all_eq_false.2 ⟨i, List.mem_range.2 hlt, by rw [hv]; decide⟩, Bool.and_false]
            have HN := Aside0.mk hno
            clear hno hv HD hlt
            go_wp2
            go_ret
            exact ⟨by rw [HN.out]; rfl, HKc.out⟩
          | true =>
            have HD' : Aside0 (∀ j : Nat, j < i + 1 → vAt l j = true) := ⟨fun j hj => by
              rcases Nat.lt_or_ge j i with h' | h'
              · exact HD.out j h'
              · obtain rfl : j = i := by omega
                exact hv⟩
            clear hv HD hlt
            go_wp2
            go_roundg (l.length - (i + 1))
            case measure => have := HI.out; have := HLT.out; omega
            case rel => exact ⟨i + 1, by go_num, ⟨by have := HLT.out; omega, rfl⟩, HD', HKc⟩
      · obtain rfl : i = l.length := by omega
        have hyes : validL l = true := by
          unfold validL
          rw [show (List.range l.length).all (vAt l) = true from List.all_eq_true.2 (fun j hj => HD.out j (List.mem_range.1 hj)), decide_eq_true hl]; rfl
        have HN := Aside0.mk hyes
        have g1 : decide ((l.length : Int) < (l.length : Int)) = false := decide_eq_false (by omega)
        have g2 : decide (l.length < l.length) = false := decide_eq_false (by omega)
        clear hyes HD hlt hi
        go_wp2
        go_ret
        exact ⟨by rw [HN.out]; rfl, HK.out⟩
  · have hno : validL l = false := by unfold validL; rw [decide_eq_false hl, Bool.false_and]
    have g1 : decide ((200 : Int) < (l.length : Int)) = true := decide_eq_true (by omega)
    have g2 : (200 : Int) < (l.length : Int) := by omega
    have g3 : 200 < l.length := by omega
    rw [hno]
    clear hno hl
    go_enter Tryd.func16, Tryd.ntmps16
    go_wp2
    go_ret
    exact ⟨rfl, Below.refl _ _⟩
end Go.Proofs.YtknfkibnocfjiaaDoor.P
