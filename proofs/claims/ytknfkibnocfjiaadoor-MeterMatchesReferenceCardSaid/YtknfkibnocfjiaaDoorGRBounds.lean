/- What Bounds of the reference implementation computes: boundsL. -/
import Derived.Test.YtknfkibnocfjiaaDoorMRBounds
import Derived.Test.YtknfkibnocfjiaaDoorGRClean
namespace Go.Proofs.YtknfkibnocfjiaaDoor.P
open Go.RowKit Go.Proofs.YtknfkibnocfjiaaDoorW.PrintWords Go.Proofs.YtknfkibnocfjiaaDoorW.PrintLast Go.Proofs.YtknfkibnocfjiaaDoorW.PrintMore Go.Proofs.YtknfkibnocfjiaaDoor.M
set_option linter.unusedVariables false
set_option linter.unusedSimpArgs false
/-- What stands in memory behind the entry of Bounds: the meter, the days, the result's variable, and what lay there before. -/
structure RB (m : S25) (d : S23) (w W : World) : Prop where
  bM : W.heap[w.heap.size]? = some (.cells #[.int .i64 m.f0, .int .i64 m.f1, .int .i64 m.f2, .int .i64 m.f3, .int .i64 m.f4.f0, .int .i64 m.f4.f1] 25 (0, 0))
  bD : W.heap[w.heap.size + 1]? = some (.cells #[.int .i64 d.f0, .int .i64 d.f1] 23 (0, 0))
  bR : W.heap[w.heap.size + 1 + 1]? = some (.cells #[.int .i64 0, .int .i64 0] 36 (0, 0))
  hb : Below w.heap.size w W
theorem RB.below {m : S25} {d : S23} {w W W2 : World} (h : RB m d w W) (hb : Below W.heap.size W W2) : RB m d w W2 :=
  ⟨blk_below h.bM hb, blk_below h.bD hb, blk_below h.bR hb, below_step h.hb hb⟩
theorem RB.start (m : S25) (d : S23) (w : World) : RB m d w (((w.alloc (.cells #[.int .i64 m.f0, .int .i64 m.f1, .int .i64 m.f2, .int .i64 m.f3, .int .i64 m.f4.f0, .int .i64 m.f4.f1] 25)).alloc (.cells #[.int .i64 d.f0, .int .i64 d.f1] 23)).alloc (.cells #[.int .i64 0, .int .i64 0] 36)) :=
  ⟨blk_alloc (blk_alloc (blk_new w (.cells #[.int .i64 m.f0, .int .i64 m.f1, .int .i64 m.f2, .int .i64 m.f3, .int .i64 m.f4.f0, .int .i64 m.f4.f1] 25)) (.cells #[.int .i64 d.f0, .int .i64 d.f1] 23)) (.cells #[.int .i64 0, .int .i64 0] 36), blk_alloc (blk_p1 w (.cells #[.int .i64 m.f0, .int .i64 m.f1, .int .i64 m.f2, .int .i64 m.f3, .int .i64 m.f4.f0, .int .i64 m.f4.f1] 25) (.cells #[.int .i64 d.f0, .int .i64 d.f1] 23)) (.cells #[.int .i64 0, .int .i64 0] 36), blk_p2 w (.cells #[.int .i64 m.f0, .int .i64 m.f1, .int .i64 m.f2, .int .i64 m.f3, .int .i64 m.f4.f0, .int .i64 m.f4.f1] 25) (.cells #[.int .i64 d.f0, .int .i64 d.f1] 23) (.cells #[.int .i64 0, .int .i64 0] 36), below_alloc (below_alloc (below_alloc (Below.refl _ _) _) _) _⟩
theorem RB.cells {m : S25} {d : S23} {w W : World} (h : RB m d w W) : W.cell? ⟨w.heap.size, 0, none⟩ = some (.int .i64 m.f0) ∧ W.cell? ⟨w.heap.size, 1, none⟩ = some (.int .i64 m.f1) ∧ W.cell? ⟨w.heap.size, 2, none⟩ = some (.int .i64 m.f2) ∧ W.cell? ⟨w.heap.size, 3, none⟩ = some (.int .i64 m.f3) ∧ W.cell? ⟨w.heap.size, 4, none⟩ = some (.int .i64 m.f4.f0) ∧ W.cell? ⟨w.heap.size, 5, none⟩ = some (.int .i64 m.f4.f1) ∧ W.cell? ⟨w.heap.size + 1, 0, none⟩ = some (.int .i64 d.f0) ∧ W.cell? ⟨w.heap.size + 1, 1, none⟩ = some (.int .i64 d.f1) ∧ W.cell? ⟨w.heap.size + 1 + 1, 0, none⟩ = some (.int .i64 0) ∧ W.cell? ⟨w.heap.size + 1 + 1, 1, none⟩ = some (.int .i64 0) := ⟨(blk_cell h.bM 0).trans rfl, (blk_cell h.bM 1).trans rfl, (blk_cell h.bM 2).trans rfl, (blk_cell h.bM 3).trans rfl, (blk_cell h.bM 4).trans rfl, (blk_cell h.bM 5).trans rfl, (blk_cell h.bD 0).trans rfl, (blk_cell h.bD 1).trans rfl, (blk_cell h.bR 0).trans rfl, (blk_cell h.bR 1).trans rfl⟩
theorem bP_range {m : S25} {d : S23} {x : Part} (hx : POk m x) (hm : 1 ≤ m.f2 ∧ m.f2 ≤ 10000) (hd : 0 ≤ m.f3 ∧ m.f3 ≤ 100) : 0 ≤ (bP m d x).1 ∧ (bP m d x).1 ≤ 500000000 ∧ 0 ≤ (bP m d x).2 ∧ (bP m d x).2 ≤ 500000000 := by
  obtain ⟨l0, l1, l2⟩ := loP_bd (d := d) hm.1 hx
  obtain ⟨b0, b1, b2, b3⟩ := bP_bd (d := d) hm hd hx
  omega
set_option maxHeartbeats 32000000 in
set_option maxRecDepth 100000 in
theorem rbounds_calls (m : S25) (A0 : Option Addr) (c0 : Nat) (l : List S43) (d : S23) (known : Int) (w : World) (hr0 : Kd.C k43 w A0 l.length l) (hc0 : l.length ≤ c0) :
    Calls Tryd.prog 19 #[.agg #[.int .i64 m.f0, .int .i64 m.f1, .int .i64 m.f2, .int .i64 m.f3, .int .i64 m.f4.f0, .int .i64 m.f4.f1], .slice A0 l.length c0, .agg #[.int .i64 d.f0, .int .i64 d.f1], .int .i64 known] w (BoundsPost w (boundsL m l d known)) := by
  have hu43 := Tryd.underlying43
  have hu25 := Tryd.underlying25
  have hu23 := Tryd.underlying23
  have hu36 := Tryd.underlying36
  have HR0 := Aside0.mk hr0
  have HRB := Aside0.mk (RB.start m d w)
  have HClean := Aside0.mk (fun W h => rclean_calls m A0 c0 l known W h hc0)
  clear hr0 hc0
  by_cases hst : stretchB d.f0 d.f1 = true
  · have HST := Aside0.mk hst
    by_cases hcl : (cleanL m l known).2 = 0
    · have HCl : Aside0 (∀ W, Kd.C k43 W A0 l.length l → Calls Tryd.prog 14 #[.agg #[.int .i64 m.f0, .int .i64 m.f1, .int .i64 m.f2, .int .i64 m.f3, .int .i64 m.f4.f0, .int .i64 m.f4.f1], .slice A0 l.length c0, .int .i64 known] W fun e w' => ∃ v0_ : Value, e = .returned (.tuple #[v0_, .int .i64 0]) ∧ Kd.R k43 43 w' W.heap.size (fun _ => True) v0_ (cleanL m l known).1 ∧ Below W.heap.size W w') := ⟨fun W h => by
        have h := HClean.out W h
        unfold RowPost43 at h
        rw [hcl] at h; exact h⟩
      have HE := Aside0.mk (bounds_clean (d := d) hst hcl)
      have HOK := Aside0.mk (clean_ok hcl)
      have hs := stretchB_iff.1 hst
      obtain ⟨hm0, hm1, hm2, hm3, hm4, hm5, hm6⟩ := validM_bounds HOK.out.valid
      have hd0 : 0 ≤ m.f1 := by omega
      have hd6 : m.f1 ≤ 6 := by omega
      have hfew := HOK.out.few
      rw [HE.out]
      clear HE hst hcl HClean
      generalize (cleanL m l known).1 = c at *
      have HPart : Aside0 (∀ (x : Part) (v a b : Int), POk m x → v = (if x.k = true then x.s else -1) → x.a = a → x.b = b → ∀ W, Calls Tryd.prog 39 #[.agg #[.int .i64 m.f0, .int .i64 m.f1, .int .i64 m.f2, .int .i64 m.f3, .int .i64 m.f4.f0, .int .i64 m.f4.f1], .agg #[.int .i64 a, .int .i64 b], .agg #[.int .i64 d.f0, .int .i64 d.f1], .int .i64 v] W fun e w' => e = .returned (.agg #[.int .i64 (bP m d x).1, .int .i64 (bP m d x).2]) ∧ Below W.heap.size W w') := ⟨fun x v a b hx hv ha hb W => rpart_calls hm2 hm3 hs hx v hv a b ha hb W⟩
      clear hs
      by_cases hz : c.length = 0
      · obtain rfl := List.eq_nil_of_length_eq_zero hz
        have HP0 := Aside0.mk (HPart.out ⟨m.f4.f0, m.f4.f1, 0, false⟩ (-1) m.f4.f0 m.f4.f1 (partsL_ok HOK.out _ (List.mem_singleton.2 rfl)) rfl rfl rfl)
        have HSum : Aside0 (sumP m d (partsL m []) = bP m d ⟨m.f4.f0, m.f4.f1, 0, false⟩) := ⟨by simp [sumP, partsL, uptoP, fromF]⟩
        rw [HSum.out]
        clear HSum HPart hz
        generalize bP m d ⟨m.f4.f0, m.f4.f1, 0, false⟩ = p at *
        go_enter Tryd.func19, Tryd.ntmps19
        go_upto_region 7 with (first
        | (go_at_call 23; (with_reducible refine (rstretch_calls d.f0 d.f1 true HST.out _).mono ?_); rintro e w1 ⟨rfl, hb⟩; replace HRB := Aside0.mk (HRB.out.below hb); obtain ⟨z0, z1, z2, z3, z4, z5, u0, u1, r0, r1⟩ := (HRB.out).cells; have rf0 := blk_frozen (HRB.out).bR 0; have rf1 := blk_frozen (HRB.out).bR 1; clear hb)
        | (go_at_call 14; (with_reducible refine (HCl.out _ (Kd.C_below HR0.out HRB.out.hb)).mono ?_); rintro e w2 ⟨v, rfl, hR, hb⟩; obtain ⟨A1, c1, rfl, hl1, hc1⟩ := Kd.R_reads hR; have HR1 := Aside0.mk hc1; have HL1 := Aside0.mk hl1; clear hR hl1 hc1; replace HRB := Aside0.mk (HRB.out.below hb); obtain ⟨z0, z1, z2, z3, z4, z5, u0, u1, r0, r1⟩ := (HRB.out).cells; have rf0 := blk_frozen (HRB.out).bR 0; have rf1 := blk_frozen (HRB.out).bR 1; clear hb))
        go_wp2_with (go_at_call 39; (with_reducible refine (HP0.out _).mono ?_); rintro e w3 ⟨rfl, hb⟩; replace HRB := Aside0.mk (HRB.out.below hb); obtain ⟨z0, z1, z2, z3, z4, z5, u0, u1, r0, r1⟩ := (HRB.out).cells; have rf0 := blk_frozen (HRB.out).bR 0; have rf1 := blk_frozen (HRB.out).bR 1; clear hb)
        have BRf := blk_put (blk_put HRB.out.bR 0 (.int .i64 p.1) rfl) 1 (.int .i64 p.2) rfl
        have q0 := (blk_cell BRf 0).trans rfl
        have q1 := (blk_cell BRf 1).trans rfl
        refine bodyPost_ret (v := .tuple #[.agg #[.int .i64 p.1, .int .i64 p.2], .int .i64 0]) ?_ rfl ⟨rfl, below_set (below_set HRB.out.hb (by omega)) (by omega)⟩
        simp [results, Tryd.f19, go_sem, q0, q1]
      · have hpos : 0 < c.length := by omega
        have g1 : ((c.length : Int) == 0) = false := beq_eq_false_iff_ne.2 (by omega)
        have hw1 : IntKind.i64.wrap ((c.length : Int) - 1) = (c.length : Int) - 1 := Go.IntWalk.i64_in _ (by omega)
        go_enter Tryd.func19, Tryd.ntmps19
        go_upto_region 9 with (first
        | (go_at_call 23; (with_reducible refine (rstretch_calls d.f0 d.f1 true HST.out _).mono ?_); rintro e w1 ⟨rfl, hb⟩; replace HRB := Aside0.mk (HRB.out.below hb); obtain ⟨z0, z1, z2, z3, z4, z5, u0, u1, r0, r1⟩ := (HRB.out).cells; have rf0 := blk_frozen (HRB.out).bR 0; have rf1 := blk_frozen (HRB.out).bR 1; clear hb)
        | (go_at_call 14; (with_reducible refine (HCl.out _ (Kd.C_below HR0.out HRB.out.hb)).mono ?_); rintro e w2 ⟨v, rfl, hR, hb⟩; obtain ⟨A1, c1, rfl, hl1, hc1⟩ := Kd.R_reads hR; have HR1 := Aside0.mk hc1; have HL1 := Aside0.mk hl1; clear hR hl1 hc1; replace HRB := Aside0.mk (HRB.out.below hb); obtain ⟨z0, z1, z2, z3, z4, z5, u0, u1, r0, r1⟩ := (HRB.out).cells; have rf0 := blk_frozen (HRB.out).bR 0; have rf1 := blk_frozen (HRB.out).bR 1; clear hb))
        clear g1 hw1 z0 z1 z2 z3 z4 z5 u0 u1 r0 r1 rf0 rf1
        obtain ⟨wz, rfl⟩ : ∃ wz : World, wz = w2 := ⟨_, rfl⟩
        obtain ⟨ad, e, _⟩ := at_T43 HR1.out ((0 : Nat) : Int) (by omega) (by omega)
        cases e
        have HX : Aside0 (∀ i : Nat, i < c.length → ∀ W, Below wz.heap.size wz W → W.cell? ⟨(ad.add (i * 4)).block, (ad.add (i * 4)).off + 1, none⟩ = some (.int .i64 (rd_T43 c (i : Int)).f1) ∧ W.cell? ⟨(ad.add (i * 4)).block, (ad.add (i * 4)).off + 2, none⟩ = some (.int .i64 (rd_T43 c (i : Int)).f2)) := ⟨fun i hi W hW => by
          obtain ⟨ad', e, y0, y1, y2, y3⟩ := at_T43 HR1.out ((i : Nat) : Int) (by omega) (by omega)
          cases e
          simp only [Int.toNat_natCast] at y1 y2
          exact ⟨cell_on hW y1, cell_on hW y2⟩⟩
        have HF9 : Aside0 (∀ W, Below wz.heap.size wz W → RB m d w W) := ⟨fun W h => HRB.out.below h⟩
        have CP0 := Aside0.mk (HPart.out (partAt m c 0) (-1) m.f4.f0 (rd_T43 c ((0 : Nat) : Int)).f1 (partAt_ok HOK.out hpos) rfl rfl rfl)
        generalize hp0 : bP m d (partAt m c 0) = p0 at *
        have HP0 := Aside0.mk hp0
        clear hp0
        have HX0 : Aside0 (∀ W, Below wz.heap.size wz W → W.cell? ⟨ad.block, ad.off + 1, none⟩ = some (.int .i64 (rd_T43 c ((0 : Nat) : Int)).f1)) := ⟨fun W h => by
          have h := (HX.out 0 hpos W h).1
          rwa [Nat.zero_mul, Addr.add_zero'] at h⟩
        generalize (rd_T43 c ((0 : Nat) : Int)).f1 = x0 at *
        go_cut [13] (fun v13 wd => ∃ g : Nat, v13 = .pointer (some ⟨g, 0, none⟩) ∧ Aside0 (wz.heap.size ≤ g) ∧ Aside0 (wd.heap[g]? = some (.cells #[.int .i64 p0.1, .int .i64 p0.2] 36 (0, 0))) ∧ Aside0 (Below wz.heap.size wz wd))
        case first =>
          refine wp_region_split 12 (fun W => Below wz.heap.size wz W) (by kernel_rfl) (by kernel_rfl) ?_
          simp only [List.take_succ_cons, List.take_zero, List.drop_succ_cons, List.drop_zero]
          have HS : Below wz.heap.size wz wz.drew := below_drew (Below.refl _ _)
          refine take_held (v := .agg #[.int .i64 m.f0, .int .i64 m.f1, .int .i64 m.f2, .int .i64 m.f3, .int .i64 m.f4.f0, .int .i64 m.f4.f1]) 0 rfl (by kernel_rfl) (by kernel_rfl) (by kernel_rfl) (fun _ _ _ h => h) (by rfl) HS (fun w9 h9 => ?hy) ?_
          case hy => (obtain ⟨z0, z1, z2, z3, z4, z5, u0, u1, r0, r1⟩ := (HF9.out _ h9).cells; go_simp)
          try simp only [Act.put, List.setIfInBounds_toArray, List.set_cons_zero, List.set_cons_succ]
          refine take_held (v := .pointer (some ⟨w.heap.size, 4, none⟩)) 1 rfl (by kernel_rfl) (by kernel_rfl) (by kernel_rfl) (fun _ _ _ h => h) (by rfl) HS (fun w9 h9 => ?hy) ?_
          case hy => (skip; go_simp)
          try simp only [Act.put, List.setIfInBounds_toArray, List.set_cons_zero, List.set_cons_succ]
          refine take_held (v := .pointer (some ⟨w.heap.size, 4, none⟩)) 2 rfl (by kernel_rfl) (by kernel_rfl) (by kernel_rfl) (fun _ _ _ h => h) (by rfl) HS (fun w9 h9 => ?hy) ?_
          case hy => (skip; go_simp)
          try simp only [Act.put, List.setIfInBounds_toArray, List.set_cons_zero, List.set_cons_succ]
          refine take_held (v := .int .i64 m.f4.f0) 3 rfl (by kernel_rfl) (by kernel_rfl) (by kernel_rfl) (fun _ _ _ h => h) (by rfl) HS (fun w9 h9 => ?hy) ?_
          case hy => (obtain ⟨z0, z1, z2, z3, z4, z5, u0, u1, r0, r1⟩ := (HF9.out _ h9).cells; go_simp)
          try simp only [Act.put, List.setIfInBounds_toArray, List.set_cons_zero, List.set_cons_succ]
          refine take_held (v := .slice (some ad) c.length c1) 4 rfl (by kernel_rfl) (by kernel_rfl) (by kernel_rfl) (fun _ _ _ h => h) (by rfl) HS (fun w9 h9 => ?hy) ?_
          case hy => (skip; go_simp)
          try simp only [Act.put, List.setIfInBounds_toArray, List.set_cons_zero, List.set_cons_succ]
          refine take_held (v := .pointer (some ad)) 5 rfl (by kernel_rfl) (by kernel_rfl) (by kernel_rfl) (fun _ _ _ h => h) (by rfl) HS (fun w9 h9 => ?hy) ?_
          case hy => (skip; go_simp)
          try simp only [Act.put, List.setIfInBounds_toArray, List.set_cons_zero, List.set_cons_succ]
          refine take_held (v := .pointer (some ⟨ad.block, ad.off + 1, none⟩)) 6 rfl (by kernel_rfl) (by kernel_rfl) (by kernel_rfl) (fun _ _ _ h => h) (by rfl) HS (fun w9 h9 => ?hy) ?_
          case hy => (skip; go_simp)
          try simp only [Act.put, List.setIfInBounds_toArray, List.set_cons_zero, List.set_cons_succ]
          refine take_held (v := .int .i64 x0) 7 rfl (by kernel_rfl) (by kernel_rfl) (by kernel_rfl) (fun _ _ _ h => h) (by rfl) HS (fun w9 h9 => ?hy) ?_
          case hy => (have y1 := HX0.out _ h9; go_simp)
          try simp only [Act.put, List.setIfInBounds_toArray, List.set_cons_zero, List.set_cons_succ]
          refine take_held (v := .agg #[.int .i64 m.f4.f0, .int .i64 x0]) 8 rfl (by kernel_rfl) (by kernel_rfl) (by kernel_rfl) (fun _ _ _ h => h) (by rfl) HS (fun w9 h9 => ?hy) ?_
          case hy => (skip; go_simp)
          try simp only [Act.put, List.setIfInBounds_toArray, List.set_cons_zero, List.set_cons_succ]
          refine take_held (v := .agg #[.int .i64 d.f0, .int .i64 d.f1]) 9 rfl (by kernel_rfl) (by kernel_rfl) (by kernel_rfl) (fun _ _ _ h => h) (by rfl) HS (fun w9 h9 => ?hy) ?_
          case hy => (obtain ⟨z0, z1, z2, z3, z4, z5, u0, u1, r0, r1⟩ := (HF9.out _ h9).cells; go_simp)
          try simp only [Act.put, List.setIfInBounds_toArray, List.set_cons_zero, List.set_cons_succ]
          refine both_held 10 11 rfl rfl (by kernel_rfl) (fun K hK => ?oa) (fun K hK => ?ob)
          case oa =>
            rw [if_pos (by rfl)]
            go_simp
            go_at_call 39
            (with_reducible refine (CP0.out _).mono ?_)
            rintro e w3 ⟨rfl, hb⟩
            replace HS := below_then HS (HS.size) hb
            clear hb
            refine hK.out _ _ HS ?_
            try simp only [Act.put, List.setIfInBounds_toArray, List.set_cons_zero, List.set_cons_succ]
            clear hK K
            have hsz := HS.size
            have HSB := Aside0.mk HS
            refine only_held 11 rfl (by kernel_rfl) (fun K hK => ?_)
            rw [if_pos (by rfl)]
            go_simp
            replace HS := below_alloc HS (.cells #[.int .i64 0, .int .i64 0] 36)
            refine hK.out _ _ HS ?_
            try simp only [Act.put, List.setIfInBounds_toArray, List.set_cons_zero, List.set_cons_succ]
            clear hK K
            refine done_held (by kernel_rfl) ?_
            show wpList _ _ _ _ _ _
            have BG := Aside0.mk (blk_new w3 (.cells #[.int .i64 0, .int .i64 0] 36))
            have hg := hsz
            have s0 := (blk_cell BG.out 0).trans rfl
            have s1 := (blk_cell BG.out 1).trans rfl
            have f0 := blk_frozen BG.out 0
            have f1 := blk_frozen BG.out 1
            have HSA := Aside0.mk HS
            clear HS
            go_wp2
            go_meet
            case rel => first | exact ⟨_, rfl, ⟨hg⟩, ⟨blk_put (blk_put BG.out 0 _ rfl) 1 _ rfl⟩, ⟨below_set (below_set HSA.out hg) hg⟩⟩ | exact ⟨_, rfl, ⟨hg⟩, ⟨blk_new _ _⟩, ⟨below_alloc HSB.out _⟩⟩
          case ob =>
            rw [if_pos (by rfl)]
            go_simp
            replace HS := below_alloc HS (.cells #[.int .i64 0, .int .i64 0] 36)
            refine hK.out _ _ HS ?_
            try simp only [Act.put, List.setIfInBounds_toArray, List.set_cons_zero, List.set_cons_succ]
            clear hK K
            have hsz : wz.heap.size ≤ wz.drew.heap.size := Nat.le_refl _
            have BA : (wz.drew.alloc (.cells #[.int .i64 0, .int .i64 0] 36)).heap[wz.heap.size]? = some (.cells #[.int .i64 0, .int .i64 0] 36 (0, 0)) := blk_new wz.drew (.cells #[.int .i64 0, .int .i64 0] 36)
            refine only_held 10 rfl (by kernel_rfl) (fun K hK => ?_)
            rw [if_pos (by rfl)]
            go_simp
            go_at_call 39
            (with_reducible refine (CP0.out _).mono ?_)
            rintro e w3 ⟨rfl, hb⟩
            replace HS := below_then HS (HS.size) hb
            have BB := blk_below BA hb; clear hb
            refine hK.out _ _ HS ?_
            try simp only [Act.put, List.setIfInBounds_toArray, List.set_cons_zero, List.set_cons_succ]
            clear hK K
            refine done_held (by kernel_rfl) ?_
            show wpList _ _ _ _ _ _
            have BG := Aside0.mk (BB)
            have hg := hsz
            have s0 := (blk_cell BG.out 0).trans rfl
            have s1 := (blk_cell BG.out 1).trans rfl
            have f0 := blk_frozen BG.out 0
            have f1 := blk_frozen BG.out 1
            have HSA := Aside0.mk HS
            clear HS
            go_wp2
            go_meet
            case rel => first | exact ⟨_, rfl, ⟨hg⟩, ⟨blk_put (blk_put BG.out 0 _ rfl) 1 _ rfl⟩, ⟨below_set (below_set HSA.out hg) hg⟩⟩ | exact ⟨_, rfl, ⟨hg⟩, ⟨blk_new _ _⟩, ⟨below_alloc HSB.out _⟩⟩
        case rest =>
          obtain ⟨g, rfl, HG, BG, HWq⟩ := hcut
          have hg := HG.out
          obtain ⟨hpl1, hpl2, hpl3, hpl4⟩ := bP_range (d := d) (partAt_ok HOK.out hpos) hm2 hm3
          rw [HP0.out] at hpl1 hpl2 hpl3 hpl4
          have hlast : POk m ⟨fromF m c c.length, m.f4.f1, 0, false⟩ := partsL_ok HOK.out _ (List.mem_append.2 (.inr (List.mem_singleton.2 rfl)))
          obtain ⟨hql1, hql2, hql3, hql4⟩ := bP_range (d := d) hlast hm2 hm3
          have hfrom : fromF m c c.length = (rd_T43 c ((c.length - 1 : Nat) : Int)).f1 := by
            obtain ⟨n, hn⟩ : ∃ n, c.length = n + 1 := ⟨c.length - 1, by omega⟩
            rw [hn]; rfl
          have CPN := Aside0.mk (HPart.out ⟨fromF m c c.length, m.f4.f1, 0, false⟩ (-1) (rd_T43 c ((c.length - 1 : Nat) : Int)).f1 m.f4.f1 hlast rfl hfrom rfl)
          have HS1 : sR m d c 1 = ((bP m d ⟨fromF m c c.length, m.f4.f1, 0, false⟩).1 + p0.1, (bP m d ⟨fromF m c c.length, m.f4.f1, 0, false⟩).2 + p0.2) := by rw [sR_succ, sR_zero, HP0.out]
          generalize bP m d ⟨fromF m c c.length, m.f4.f1, 0, false⟩ = pn at *
          have CPS := Aside0.mk (rplus_calls p0.1 p0.2 pn.1 pn.2 (by omega) (by omega) (by omega) (by omega) (sR m d c 1).1 (sR m d c 1).2 (by rw [HS1]; exact Int.add_comm _ _) (by rw [HS1]; exact Int.add_comm _ _))
          have HXN := Aside0.mk (fun W h => (HX.out (c.length - 1) (by omega) W h).1)
          have hti : ((c.length : Int) - 1).toNat = c.length - 1 := by omega
          have j0 : (0 : Int) ≤ (c.length : Int) - 1 := by omega
          have j1 : (c.length : Int) - 1 < (c.length : Int) := by omega
          have j2 : (0 : Int) < (c.length : Int) := by omega
          have j5 : ¬ ((c.length : Int) < 1) := by omega
          clear HS1 hfrom hlast hql1 hql2 hql3 hql4 hpl1 hpl2 hpl3 hpl4 CP0 HX0 HP0
          generalize hxn : (rd_T43 c ((c.length - 1 : Nat) : Int)).f1 = xn at *
          clear hxn
          go_upto_region 10 with (fail)
          go_cut [13] (fun v13 wd => v13 = .pointer (some ⟨g, 0, none⟩) ∧ Aside0 (wd.heap[g]? = some (.cells #[.int .i64 (sR m d c 1).1, .int .i64 (sR m d c 1).2] 36 (0, 0))) ∧ Aside0 (Below wz.heap.size wz wd))
          case first =>
            generalize (sR m d c 1).1 = q1 at *
            generalize (sR m d c 1).2 = q2 at *
            refine wp_region_split 14 (fun W => Below wz.heap.size wz W ∧ W.heap[g]? = some (.cells #[.int .i64 p0.1, .int .i64 p0.2] 36 (0, 0))) (by kernel_rfl) (by kernel_rfl) ?_
            simp only [List.take_succ_cons, List.take_zero, List.drop_succ_cons, List.drop_zero]
            have HS : Below wz.heap.size wz wc.drew ∧ wc.drew.heap[g]? = some (.cells #[.int .i64 p0.1, .int .i64 p0.2] 36 (0, 0)) := ⟨below_drew1 HWq.out, BG.out⟩
            refine take_held (v := .agg #[.int .i64 p0.1, .int .i64 p0.2]) 0 rfl (by kernel_rfl) (by kernel_rfl) (by kernel_rfl) (fun _ _ _ h => h) (by rfl) HS (fun w9 h9 => ?hy) ?_
            case hy => (have s0 := (blk_cell h9.2 0).trans rfl; have s1 := (blk_cell h9.2 1).trans rfl; go_simp)
            try simp only [Act.put, List.setIfInBounds_toArray, List.set_cons_zero, List.set_cons_succ]
            refine take_held (v := .agg #[.int .i64 m.f0, .int .i64 m.f1, .int .i64 m.f2, .int .i64 m.f3, .int .i64 m.f4.f0, .int .i64 m.f4.f1]) 1 rfl (by kernel_rfl) (by kernel_rfl) (by kernel_rfl) (fun _ _ _ h => h) (by rfl) HS (fun w9 h9 => ?hy) ?_
            case hy => (obtain ⟨z0, z1, z2, z3, z4, z5, u0, u1, r0, r1⟩ := (HF9.out _ h9.1).cells; go_simp)
            try simp only [Act.put, List.setIfInBounds_toArray, List.set_cons_zero, List.set_cons_succ]
            refine take_held (v := .slice (some ad) c.length c1) 2 rfl (by kernel_rfl) (by kernel_rfl) (by kernel_rfl) (fun _ _ _ h => h) (by rfl) HS (fun w9 h9 => ?hy) ?_
            case hy => (skip; go_simp)
            try simp only [Act.put, List.setIfInBounds_toArray, List.set_cons_zero, List.set_cons_succ]
            refine take_held (v := .int .i64 ((c.length : Int) - 1)) 3 rfl (by kernel_rfl) (by kernel_rfl) (by kernel_rfl) (fun _ _ _ h => h) (by rfl) HS (fun w9 h9 => ?hy) ?_
            case hy => (skip; go_simp)
            try simp only [Act.put, List.setIfInBounds_toArray, List.set_cons_zero, List.set_cons_succ]
            refine take_held (v := .pointer (some (ad.add ((c.length - 1) * 4)))) 4 rfl (by kernel_rfl) (by kernel_rfl) (by kernel_rfl) (fun _ _ _ h => h) (by rfl) HS (fun w9 h9 => ?hy) ?_
            case hy => (skip; go_simp)
            try simp only [Act.put, List.setIfInBounds_toArray, List.set_cons_zero, List.set_cons_succ]
            refine take_held (v := .pointer (some ⟨(ad.add ((c.length - 1) * 4)).block, (ad.add ((c.length - 1) * 4)).off + 1, none⟩)) 5 rfl (by kernel_rfl) (by kernel_rfl) (by kernel_rfl) (fun _ _ _ h => h) (by rfl) HS (fun w9 h9 => ?hy) ?_
            case hy => (skip; go_simp)
            try simp only [Act.put, List.setIfInBounds_toArray, List.set_cons_zero, List.set_cons_succ]
            refine take_held (v := .int .i64 xn) 6 rfl (by kernel_rfl) (by kernel_rfl) (by kernel_rfl) (fun _ _ _ h => h) (by rfl) HS (fun w9 h9 => ?hy) ?_
            case hy => (have y1 := HXN.out _ h9.1; go_simp)
            try simp only [Act.put, List.setIfInBounds_toArray, List.set_cons_zero, List.set_cons_succ]
            refine take_held (v := .pointer (some ⟨w.heap.size, 4, none⟩)) 7 rfl (by kernel_rfl) (by kernel_rfl) (by kernel_rfl) (fun _ _ _ h => h) (by rfl) HS (fun w9 h9 => ?hy) ?_
            case hy => (skip; go_simp)
            try simp only [Act.put, List.setIfInBounds_toArray, List.set_cons_zero, List.set_cons_succ]
            refine take_held (v := .pointer (some ⟨w.heap.size, 5, none⟩)) 8 rfl (by kernel_rfl) (by kernel_rfl) (by kernel_rfl) (fun _ _ _ h => h) (by rfl) HS (fun w9 h9 => ?hy) ?_
            case hy => (skip; go_simp)
            try simp only [Act.put, List.setIfInBounds_toArray, List.set_cons_zero, List.set_cons_succ]
            refine take_held (v := .int .i64 m.f4.f1) 9 rfl (by kernel_rfl) (by kernel_rfl) (by kernel_rfl) (fun _ _ _ h => h) (by rfl) HS (fun w9 h9 => ?hy) ?_
            case hy => (obtain ⟨z0, z1, z2, z3, z4, z5, u0, u1, r0, r1⟩ := (HF9.out _ h9.1).cells; go_simp)
            try simp only [Act.put, List.setIfInBounds_toArray, List.set_cons_zero, List.set_cons_succ]
            refine take_held (v := .agg #[.int .i64 xn, .int .i64 m.f4.f1]) 10 rfl (by kernel_rfl) (by kernel_rfl) (by kernel_rfl) (fun _ _ _ h => h) (by rfl) HS (fun w9 h9 => ?hy) ?_
            case hy => (skip; go_simp)
            try simp only [Act.put, List.setIfInBounds_toArray, List.set_cons_zero, List.set_cons_succ]
            refine take_held (v := .agg #[.int .i64 d.f0, .int .i64 d.f1]) 11 rfl (by kernel_rfl) (by kernel_rfl) (by kernel_rfl) (fun _ _ _ h => h) (by rfl) HS (fun w9 h9 => ?hy) ?_
            case hy => (obtain ⟨z0, z1, z2, z3, z4, z5, u0, u1, r0, r1⟩ := (HF9.out _ h9.1).cells; go_simp)
            try simp only [Act.put, List.setIfInBounds_toArray, List.set_cons_zero, List.set_cons_succ]
            refine only_held 12 rfl (by kernel_rfl) (fun K hK => ?_)
            rw [if_pos (by rfl)]
            go_simp
            go_at_call 39
            (with_reducible refine (CPN.out _).mono ?_)
            rintro e w3 ⟨rfl, hb⟩
            replace HS := And.intro (below_then HS.1 HS.1.size hb) (blk_below HS.2 hb)
            clear hb
            refine hK.out _ _ HS ?_
            try simp only [Act.put, List.setIfInBounds_toArray, List.set_cons_zero, List.set_cons_succ]
            clear hK K
            refine only_held 13 rfl (by kernel_rfl) (fun K hK => ?_)
            rw [if_pos (by rfl)]
            go_simp
            go_at_call 40
            (with_reducible refine (CPS.out _).mono ?_)
            rintro e w4 ⟨rfl, hb⟩
            replace HS := And.intro (below_then HS.1 HS.1.size hb) (blk_below HS.2 hb)
            clear hb
            refine hK.out _ _ HS ?_
            try simp only [Act.put, List.setIfInBounds_toArray, List.set_cons_zero, List.set_cons_succ]
            clear hK K
            refine done_held (by kernel_rfl) ?_
            show wpList _ _ _ _ _ _
            have BG9 := Aside0.mk HS.2
            have HW9 := Aside0.mk HS.1
            clear HS
            have s0 := (blk_cell BG9.out 0).trans rfl
            have s1 := (blk_cell BG9.out 1).trans rfl
            have f0 := blk_frozen BG9.out 0
            have f1 := blk_frozen BG9.out 1
            go_wp2
            go_meet
            case rel => exact ⟨rfl, ⟨blk_put (blk_put BG9.out 0 _ rfl) 1 _ rfl⟩, ⟨below_set (below_set HW9.out hg) hg⟩⟩
          case rest =>
            obtain ⟨rfl, BG1, HW1⟩ := hcut
            clear CPN CPS HXN hti j0 j1 j2 j5 BG HWq
            go_wp2
            go_loopg [14] (c.length - 1) (fun gk v14 w' => ∃ i : Nat, v14 = .int .i64 ((i : Int) + 1) ∧ Aside0 (i ≤ c.length - 1 ∧ gk = c.length - 1 - i) ∧ Aside0 (w'.heap[g]? = some (.cells #[.int .i64 (sR m d c (i + 1)).1, .int .i64 (sR m d c (i + 1)).2] 36 (0, 0))) ∧ Aside0 (Below wz.heap.size wz w'))
            case atStart => exact ⟨0, rfl, ⟨Nat.zero_le _, rfl⟩, BG1, HW1⟩
            case round =>
              clear BG1 HW1
              obtain ⟨i, rfl, HI, BG, HW⟩ := hrel
              have hi := HI.out.1
              by_cases hlt : i < c.length - 1
              · have HLT := Aside0.mk hlt
                have j1 : ((i : Int) + 1) < (c.length : Int) := by omega
                have j2 : (i : Int) < (c.length : Int) := by omega
                have j3 : (0 : Int) ≤ (i : Int) := by omega
                have j4 : (0 : Int) ≤ (i : Int) + 1 := by omega
                have hti : ((i : Int) + 1).toNat = i + 1 := by omega
                have g1 : decide ((i : Int) + 1 < (c.length : Int)) = true := decide_eq_true j1
                have hw1 : IntKind.i64.wrap ((i : Int) + 1 + 1) = (i : Int) + 1 + 1 := Go.IntWalk.i64_in _ (by omega)
                have hw5 : IntKind.i64.wrap (i : Int) = (i : Int) := Go.IntWalk.i64_in _ (by omega)
                have hx := HOK.out.ok _ (mem_rd (c := c) (i := i) (by omega))
                have hy := HOK.out.ok _ (mem_rd (c := c) (i := i + 1) (by omega))
                have hxv := HOK.out.value _ (mem_rd (c := c) (i := i) (by omega))
                have hyv := HOK.out.value _ (mem_rd (c := c) (i := i + 1) (by omega))
                have hok := partAt_ok HOK.out (show i + 1 < c.length by omega)
                have CS := Aside0.mk (qshown_calls m (rd_T43 c (i : Int)).f2 (rd_T43 c ((i + 1 : Nat) : Int)).f2 hd0 hd6 (readingOk_bounds hx).2.2.2.1 hxv (readingOk_bounds hy).2.2.2.1 hyv)
                have CP := Aside0.mk (HPart.out (partAt m c (i + 1)) (shownF (pow10 m.f1) (rd_T43 c (i : Int)).f2 (rd_T43 c ((i + 1 : Nat) : Int)).f2) (rd_T43 c (i : Int)).f1 (rd_T43 c ((i + 1 : Nat) : Int)).f1 hok rfl rfl rfl)
                obtain ⟨hpl1, hpl2, hpl3, hpl4⟩ := bP_range (d := d) hok hm2 hm3
                obtain ⟨hq1, hq2, hq3⟩ := sR_bd (d := d) HOK.out (n := i + 1) (by omega)
                have hsu := sR_succ m d c (i + 1)
                have CPS := Aside0.mk (rplus_calls (sR m d c (i + 1)).1 (sR m d c (i + 1)).2 (bP m d (partAt m c (i + 1))).1 (bP m d (partAt m c (i + 1))).2 (by omega) (by omega) (by omega) (by omega) (sR m d c (i + 1 + 1)).1 (sR m d c (i + 1 + 1)).2 (by rw [hsu]) (by rw [hsu]))
                have HXA := Aside0.mk (HX.out i (by omega))
                have HXB := Aside0.mk (HX.out (i + 1) (by omega))
                clear hx hy hxv hyv hok hpl1 hpl2 hpl3 hpl4 hq1 hq2 hq3 hsu hlt
                generalize shownF (pow10 m.f1) (rd_T43 c (i : Int)).f2 (rd_T43 c ((i + 1 : Nat) : Int)).f2 = sh at *
                generalize (bP m d (partAt m c (i + 1))).1 = b1 at *
                generalize (bP m d (partAt m c (i + 1))).2 = b2 at *
                generalize ht1 : (sR m d c (i + 1 + 1)).1 = t1 at *
                have HT1 := Aside0.mk ht1
                clear ht1
                generalize ht2 : (sR m d c (i + 1 + 1)).2 = t2 at *
                have HT2 := Aside0.mk ht2
                clear ht2
                generalize (sR m d c (i + 1)).1 = s1 at *
                generalize (sR m d c (i + 1)).2 = s2 at *
                generalize hxx : rd_T43 c (i : Int) = x at *
                generalize hyy : rd_T43 c ((i + 1 : Nat) : Int) = y at *
                clear hxx hyy
                go_upto_region 14 with (fail)
                clear g1
                go_cut [15] (fun v15 wd => v15 = .int .i64 sh ∧ Aside0 (wd.heap[g]? = some (.cells #[.int .i64 s1, .int .i64 s2] 36 (0, 0))) ∧ Aside0 (Below wz.heap.size wz wd))
                case first =>
                  refine wp_region_any (by kernel_rfl) ?_
                  refine wpAny_of_held (S := fun W => Below wz.heap.size wz W ∧ W.heap[g]? = some (.cells #[.int .i64 s1, .int .i64 s2] 36 (0, 0))) _ _ _ _ ?_
                  show wpAnyH _ _ _ _ _ 14 (Array.replicate 14 false) _ _
                  have HS : Below wz.heap.size wz wr.drew ∧ wr.drew.heap[g]? = some (.cells #[.int .i64 s1, .int .i64 s2] 36 (0, 0)) := ⟨below_drew1 HW.out, BG.out⟩
                  refine take_held (v := .agg #[.int .i64 m.f0, .int .i64 m.f1, .int .i64 m.f2, .int .i64 m.f3, .int .i64 m.f4.f0, .int .i64 m.f4.f1]) 0 rfl (by kernel_rfl) (by kernel_rfl) (by kernel_rfl) (fun _ _ _ h => h) (by rfl) HS (fun w9 h9 => ?hy) ?_
                  case hy => (obtain ⟨z0, z1, z2, z3, z4, z5, u0, u1, r0, r1⟩ := (HF9.out _ h9.1).cells; go_simp)
                  try simp only [Act.put, List.setIfInBounds_toArray, List.set_cons_zero, List.set_cons_succ]
                  refine take_held (v := .slice (some ad) c.length c1) 1 rfl (by kernel_rfl) (by kernel_rfl) (by kernel_rfl) (fun _ _ _ h => h) (by rfl) HS (fun w9 h9 => ?hy) ?_
                  case hy => (skip; go_simp)
                  try simp only [Act.put, List.setIfInBounds_toArray, List.set_cons_zero, List.set_cons_succ]
                  refine take_held (v := .int .i64 ((i : Int) + 1)) 2 rfl (by kernel_rfl) (by kernel_rfl) (by kernel_rfl) (fun _ _ _ h => h) (by rfl) HS (fun w9 h9 => ?hy) ?_
                  case hy => (skip; go_simp)
                  try simp only [Act.put, List.setIfInBounds_toArray, List.set_cons_zero, List.set_cons_succ]
                  refine take_held (v := .int .i64 (i : Int)) 3 rfl (by kernel_rfl) (by kernel_rfl) (by kernel_rfl) (fun _ _ _ h => h) (by rfl) HS (fun w9 h9 => ?hy) ?_
                  case hy => (skip; go_simp)
                  try simp only [Act.put, List.setIfInBounds_toArray, List.set_cons_zero, List.set_cons_succ]
                  refine take_held (v := .pointer (some (ad.add (i * 4)))) 4 rfl (by kernel_rfl) (by kernel_rfl) (by kernel_rfl) (fun _ _ _ h => h) (by rfl) HS (fun w9 h9 => ?hy) ?_
                  case hy => (skip; go_simp)
                  try simp only [Act.put, List.setIfInBounds_toArray, List.set_cons_zero, List.set_cons_succ]
                  refine take_held (v := .pointer (some ⟨(ad.add (i * 4)).block, (ad.add (i * 4)).off + 2, none⟩)) 5 rfl (by kernel_rfl) (by kernel_rfl) (by kernel_rfl) (fun _ _ _ h => h) (by rfl) HS (fun w9 h9 => ?hy) ?_
                  case hy => (skip; go_simp)
                  try simp only [Act.put, List.setIfInBounds_toArray, List.set_cons_zero, List.set_cons_succ]
                  refine take_held (v := .int .i64 x.f2) 6 rfl (by kernel_rfl) (by kernel_rfl) (by kernel_rfl) (fun _ _ _ h => h) (by rfl) HS (fun w9 h9 => ?hy) ?_
                  case hy => (have y1 := (HXA.out _ h9.1).2; go_simp)
                  try simp only [Act.put, List.setIfInBounds_toArray, List.set_cons_zero, List.set_cons_succ]
                  refine take_held (v := .slice (some ad) c.length c1) 7 rfl (by kernel_rfl) (by kernel_rfl) (by kernel_rfl) (fun _ _ _ h => h) (by rfl) HS (fun w9 h9 => ?hy) ?_
                  case hy => (skip; go_simp)
                  try simp only [Act.put, List.setIfInBounds_toArray, List.set_cons_zero, List.set_cons_succ]
                  refine take_held (v := .int .i64 ((i : Int) + 1)) 8 rfl (by kernel_rfl) (by kernel_rfl) (by kernel_rfl) (fun _ _ _ h => h) (by rfl) HS (fun w9 h9 => ?hy) ?_
                  case hy => (skip; go_simp)
                  try simp only [Act.put, List.setIfInBounds_toArray, List.set_cons_zero, List.set_cons_succ]
                  refine take_held (v := .pointer (some (ad.add ((i + 1) * 4)))) 9 rfl (by kernel_rfl) (by kernel_rfl) (by kernel_rfl) (fun _ _ _ h => h) (by rfl) HS (fun w9 h9 => ?hy) ?_
                  case hy => (skip; go_simp)
                  try simp only [Act.put, List.setIfInBounds_toArray, List.set_cons_zero, List.set_cons_succ]
                  refine take_held (v := .pointer (some ⟨(ad.add ((i + 1) * 4)).block, (ad.add ((i + 1) * 4)).off + 2, none⟩)) 10 rfl (by kernel_rfl) (by kernel_rfl) (by kernel_rfl) (fun _ _ _ h => h) (by rfl) HS (fun w9 h9 => ?hy) ?_
                  case hy => (skip; go_simp)
                  try simp only [Act.put, List.setIfInBounds_toArray, List.set_cons_zero, List.set_cons_succ]
                  refine take_held (v := .int .i64 y.f2) 11 rfl (by kernel_rfl) (by kernel_rfl) (by kernel_rfl) (fun _ _ _ h => h) (by rfl) HS (fun w9 h9 => ?hy) ?_
                  case hy => (have y1 := (HXB.out _ h9.1).2; go_simp)
                  try simp only [Act.put, List.setIfInBounds_toArray, List.set_cons_zero, List.set_cons_succ]
                  refine only_held 12 rfl (by kernel_rfl) (fun K hK => ?_)
                  rw [if_pos (by rfl)]
                  go_simp
                  go_at_call 35
                  (with_reducible refine (CS.out _).mono ?_)
                  rintro e w3 ⟨rfl, hb⟩
                  replace HS := And.intro (below_then HS.1 HS.1.size hb) (blk_below HS.2 hb)
                  clear hb
                  refine hK.out _ _ HS ?_
                  try simp only [Act.put, List.setIfInBounds_toArray, List.set_cons_zero, List.set_cons_succ]
                  clear hK K
                  refine take_held (v := .int .i64 sh) 13 rfl (by kernel_rfl) (by kernel_rfl) (by kernel_rfl) (fun _ _ _ h => h) (by rfl) HS (fun w9 h9 => ?hy) ?_
                  case hy => (skip; go_simp)
                  try simp only [Act.put, List.setIfInBounds_toArray, List.set_cons_zero, List.set_cons_succ]
                  refine done_held (by kernel_rfl) ?_
                  have BG9 := Aside0.mk HS.2
                  have HW9 := Aside0.mk HS.1
                  clear HS
                  go_wp2
                  go_meet
                  case rel => exact ⟨rfl, BG9, HW9⟩
                case rest =>
                  obtain ⟨rfl, BG1, HW1⟩ := hcut
                  go_upto_region 15 with (fail)
                  refine wp_region_split 18 (fun W => Below wz.heap.size wz W ∧ W.heap[g]? = some (.cells #[.int .i64 s1, .int .i64 s2] 36 (0, 0))) (by kernel_rfl) (by kernel_rfl) ?_
                  simp only [List.take_succ_cons, List.take_zero, List.drop_succ_cons, List.drop_zero]
                  have HS : Below wz.heap.size wz wc.drew ∧ wc.drew.heap[g]? = some (.cells #[.int .i64 s1, .int .i64 s2] 36 (0, 0)) := ⟨below_drew1 HW1.out, BG1.out⟩
                  refine take_held (v := .agg #[.int .i64 s1, .int .i64 s2]) 0 rfl (by kernel_rfl) (by kernel_rfl) (by kernel_rfl) (fun _ _ _ h => h) (by rfl) HS (fun w9 h9 => ?hy) ?_
                  case hy => (have s0 := (blk_cell h9.2 0).trans rfl; have s1 := (blk_cell h9.2 1).trans rfl; go_simp)
                  try simp only [Act.put, List.setIfInBounds_toArray, List.set_cons_zero, List.set_cons_succ]
                  refine take_held (v := .agg #[.int .i64 m.f0, .int .i64 m.f1, .int .i64 m.f2, .int .i64 m.f3, .int .i64 m.f4.f0, .int .i64 m.f4.f1]) 1 rfl (by kernel_rfl) (by kernel_rfl) (by kernel_rfl) (fun _ _ _ h => h) (by rfl) HS (fun w9 h9 => ?hy) ?_
                  case hy => (obtain ⟨z0, z1, z2, z3, z4, z5, u0, u1, r0, r1⟩ := (HF9.out _ h9.1).cells; go_simp)
                  try simp only [Act.put, List.setIfInBounds_toArray, List.set_cons_zero, List.set_cons_succ]
                  refine take_held (v := .slice (some ad) c.length c1) 2 rfl (by kernel_rfl) (by kernel_rfl) (by kernel_rfl) (fun _ _ _ h => h) (by rfl) HS (fun w9 h9 => ?hy) ?_
                  case hy => (skip; go_simp)
                  try simp only [Act.put, List.setIfInBounds_toArray, List.set_cons_zero, List.set_cons_succ]
                  refine take_held (v := .int .i64 ((i : Int) + 1)) 3 rfl (by kernel_rfl) (by kernel_rfl) (by kernel_rfl) (fun _ _ _ h => h) (by rfl) HS (fun w9 h9 => ?hy) ?_
                  case hy => (skip; go_simp)
                  try simp only [Act.put, List.setIfInBounds_toArray, List.set_cons_zero, List.set_cons_succ]
                  refine take_held (v := .int .i64 (i : Int)) 4 rfl (by kernel_rfl) (by kernel_rfl) (by kernel_rfl) (fun _ _ _ h => h) (by rfl) HS (fun w9 h9 => ?hy) ?_
                  case hy => (skip; go_simp)
                  try simp only [Act.put, List.setIfInBounds_toArray, List.set_cons_zero, List.set_cons_succ]
                  refine take_held (v := .pointer (some (ad.add (i * 4)))) 5 rfl (by kernel_rfl) (by kernel_rfl) (by kernel_rfl) (fun _ _ _ h => h) (by rfl) HS (fun w9 h9 => ?hy) ?_
                  case hy => (skip; go_simp)
                  try simp only [Act.put, List.setIfInBounds_toArray, List.set_cons_zero, List.set_cons_succ]
                  refine take_held (v := .pointer (some ⟨(ad.add (i * 4)).block, (ad.add (i * 4)).off + 1, none⟩)) 6 rfl (by kernel_rfl) (by kernel_rfl) (by kernel_rfl) (fun _ _ _ h => h) (by rfl) HS (fun w9 h9 => ?hy) ?_
                  case hy => (skip; go_simp)
                  try simp only [Act.put, List.setIfInBounds_toArray, List.set_cons_zero, List.set_cons_succ]
                  refine take_held (v := .int .i64 x.f1) 7 rfl (by kernel_rfl) (by kernel_rfl) (by kernel_rfl) (fun _ _ _ h => h) (by rfl) HS (fun w9 h9 => ?hy) ?_
                  case hy => (have y1 := (HXA.out _ h9.1).1; go_simp)
                  try simp only [Act.put, List.setIfInBounds_toArray, List.set_cons_zero, List.set_cons_succ]
                  refine take_held (v := .slice (some ad) c.length c1) 8 rfl (by kernel_rfl) (by kernel_rfl) (by kernel_rfl) (fun _ _ _ h => h) (by rfl) HS (fun w9 h9 => ?hy) ?_
                  case hy => (skip; go_simp)
                  try simp only [Act.put, List.setIfInBounds_toArray, List.set_cons_zero, List.set_cons_succ]
                  refine take_held (v := .int .i64 ((i : Int) + 1)) 9 rfl (by kernel_rfl) (by kernel_rfl) (by kernel_rfl) (fun _ _ _ h => h) (by rfl) HS (fun w9 h9 => ?hy) ?_
                  case hy => (skip; go_simp)
                  try simp only [Act.put, List.setIfInBounds_toArray, List.set_cons_zero, List.set_cons_succ]
                  refine take_held (v := .pointer (some (ad.add ((i + 1) * 4)))) 10 rfl (by kernel_rfl) (by kernel_rfl) (by kernel_rfl) (fun _ _ _ h => h) (by rfl) HS (fun w9 h9 => ?hy) ?_
                  case hy => (skip; go_simp)
                  try simp only [Act.put, List.setIfInBounds_toArray, List.set_cons_zero, List.set_cons_succ]
                  refine take_held (v := .pointer (some ⟨(ad.add ((i + 1) * 4)).block, (ad.add ((i + 1) * 4)).off + 1, none⟩)) 11 rfl (by kernel_rfl) (by kernel_rfl) (by kernel_rfl) (fun _ _ _ h => h) (by rfl) HS (fun w9 h9 => ?hy) ?_
                  case hy => (skip; go_simp)
                  try simp only [Act.put, List.setIfInBounds_toArray, List.set_cons_zero, List.set_cons_succ]
                  refine take_held (v := .int .i64 y.f1) 12 rfl (by kernel_rfl) (by kernel_rfl) (by kernel_rfl) (fun _ _ _ h => h) (by rfl) HS (fun w9 h9 => ?hy) ?_
                  case hy => (have y1 := (HXB.out _ h9.1).1; go_simp)
                  try simp only [Act.put, List.setIfInBounds_toArray, List.set_cons_zero, List.set_cons_succ]
                  refine take_held (v := .agg #[.int .i64 x.f1, .int .i64 y.f1]) 13 rfl (by kernel_rfl) (by kernel_rfl) (by kernel_rfl) (fun _ _ _ h => h) (by rfl) HS (fun w9 h9 => ?hy) ?_
                  case hy => (skip; go_simp)
                  try simp only [Act.put, List.setIfInBounds_toArray, List.set_cons_zero, List.set_cons_succ]
                  refine take_held (v := .agg #[.int .i64 d.f0, .int .i64 d.f1]) 14 rfl (by kernel_rfl) (by kernel_rfl) (by kernel_rfl) (fun _ _ _ h => h) (by rfl) HS (fun w9 h9 => ?hy) ?_
                  case hy => (obtain ⟨z0, z1, z2, z3, z4, z5, u0, u1, r0, r1⟩ := (HF9.out _ h9.1).cells; go_simp)
                  try simp only [Act.put, List.setIfInBounds_toArray, List.set_cons_zero, List.set_cons_succ]
                  refine take_held (v := .int .i64 sh) 15 rfl (by kernel_rfl) (by kernel_rfl) (by kernel_rfl) (fun _ _ _ h => h) (by rfl) HS (fun w9 h9 => ?hy) ?_
                  case hy => (skip; go_simp)
                  try simp only [Act.put, List.setIfInBounds_toArray, List.set_cons_zero, List.set_cons_succ]
                  refine only_held 16 rfl (by kernel_rfl) (fun K hK => ?_)
                  rw [if_pos (by rfl)]
                  go_simp
                  go_at_call 39
                  (with_reducible refine (CP.out _).mono ?_)
                  rintro e w3 ⟨rfl, hb⟩
                  replace HS := And.intro (below_then HS.1 HS.1.size hb) (blk_below HS.2 hb)
                  clear hb
                  refine hK.out _ _ HS ?_
                  try simp only [Act.put, List.setIfInBounds_toArray, List.set_cons_zero, List.set_cons_succ]
                  clear hK K
                  refine only_held 17 rfl (by kernel_rfl) (fun K hK => ?_)
                  rw [if_pos (by rfl)]
                  go_simp
                  go_at_call 40
                  (with_reducible refine (CPS.out _).mono ?_)
                  rintro e w4 ⟨rfl, hb⟩
                  replace HS := And.intro (below_then HS.1 HS.1.size hb) (blk_below HS.2 hb)
                  clear hb
                  refine hK.out _ _ HS ?_
                  try simp only [Act.put, List.setIfInBounds_toArray, List.set_cons_zero, List.set_cons_succ]
                  clear hK K
                  refine done_held (by kernel_rfl) ?_
                  show wpList _ _ _ _ _ _
                  have BG9 := Aside0.mk HS.2
                  have HW9 := Aside0.mk HS.1
                  clear HS
                  have s0 := (blk_cell BG9.out 0).trans rfl
                  have s1 := (blk_cell BG9.out 1).trans rfl
                  have f0 := blk_frozen BG9.out 0
                  have f1 := blk_frozen BG9.out 1
                  go_wp2
                  have BG2 := Aside0.mk (blk_put (blk_put BG9.out 0 (.int .i64 t1) rfl) 1 (.int .i64 t2) rfl)
                  have HW2 := Aside0.mk (below_set (below_set HW9.out hg (j := 0) (v := .int .i64 t1)) hg (j := 1) (v := .int .i64 t2))
                  go_roundg (c.length - 1 - (i + 1))
                  case measure => have := HI.out; have := HLT.out; omega
                  case rel => exact ⟨i + 1, by go_num, ⟨by have := HLT.out; omega, rfl⟩, ⟨by rw [HT1.out, HT2.out]; exact BG2.out⟩, HW2⟩
              · obtain hie : i = c.length - 1 := by omega
                have g1 : decide ((i : Int) + 1 < (c.length : Int)) = false := decide_eq_false (by omega)
                have hsum : sR m d c (i + 1) = sumP m d (partsL m c) := by rw [show i + 1 = c.length by omega]; rfl
                rw [hsum] at BG
                clear hsum hie hlt
                generalize sumP m d (partsL m c) = p at *
                have HRBw := Aside0.mk (HF9.out _ HW.out)
                have r0 : wr.cell? ⟨w.heap.size + 1 + 1, 0, none⟩ = some (.int .i64 0) := (blk_cell (HRBw.out).bR 0).trans rfl; have r1 : wr.cell? ⟨w.heap.size + 1 + 1, 1, none⟩ = some (.int .i64 0) := (blk_cell (HRBw.out).bR 1).trans rfl; have rf0 := blk_frozen (HRBw.out).bR 0; have rf1 := blk_frozen (HRBw.out).bR 1
                have s0 := (blk_cell BG.out 0).trans rfl
                have s1 := (blk_cell BG.out 1).trans rfl
                go_wp2
                have BRf := blk_put (blk_put HRBw.out.bR 0 (.int .i64 p.1) rfl) 1 (.int .i64 p.2) rfl
                have q0 := (blk_cell BRf 0).trans rfl
                have q1 := (blk_cell BRf 1).trans rfl
                refine bodyPost_ret (v := .tuple #[.agg #[.int .i64 p.1, .int .i64 p.2], .int .i64 0]) ?_ rfl ⟨rfl, below_set (below_set HRBw.out.hb (by omega)) (by omega)⟩
                simp [results, Tryd.f19, go_sem, q0, q1]
    · have HCl : Aside0 (∀ W, Kd.C k43 W A0 l.length l → Calls Tryd.prog 14 #[.agg #[.int .i64 m.f0, .int .i64 m.f1, .int .i64 m.f2, .int .i64 m.f3, .int .i64 m.f4.f0, .int .i64 m.f4.f1], .slice A0 l.length c0, .int .i64 known] W fun e w' => ∃ v0_ : Value, e = .returned (.tuple #[v0_, .int .i64 (cleanL m l known).2]) ∧ Kd.R k43 43 w' W.heap.size (fun _ => True) v0_ (cleanL m l known).1 ∧ Below W.heap.size W w') := ⟨fun W h => HClean.out W h⟩
      have HE := Aside0.mk (bounds_err (d := d) hst hcl)
      have e1 : ((cleanL m l known).2 != 0) = true := by rw [bne_iff_ne]; exact hcl
      have e2 : ((cleanL m l known).2 == 0) = false := beq_eq_false_iff_ne.2 hcl
      rw [HE.out]
      clear HE hst hcl HClean
      generalize (cleanL m l known).2 = er at *
      go_enter Tryd.func19, Tryd.ntmps19
      go_wp2_with (first
        | (go_at_call 23; (with_reducible refine (rstretch_calls d.f0 d.f1 true HST.out _).mono ?_); rintro e w1 ⟨rfl, hb⟩; replace HRB := Aside0.mk (HRB.out.below hb); obtain ⟨z0, z1, z2, z3, z4, z5, u0, u1, r0, r1⟩ := (HRB.out).cells; have rf0 := blk_frozen (HRB.out).bR 0; have rf1 := blk_frozen (HRB.out).bR 1; clear hb)
        | (go_at_call 14; (with_reducible refine (HCl.out _ (Kd.C_below HR0.out HRB.out.hb)).mono ?_); rintro e w2 ⟨v, rfl, hR, hb⟩; clear hR; replace HRB := Aside0.mk (HRB.out.below hb); obtain ⟨z0, z1, z2, z3, z4, z5, u0, u1, r0, r1⟩ := (HRB.out).cells; have rf0 := blk_frozen (HRB.out).bR 0; have rf1 := blk_frozen (HRB.out).bR 1; clear hb))
      have BRf := blk_put (blk_put HRB.out.bR 0 (.int .i64 0) rfl) 1 (.int .i64 0) rfl
      have q0 := (blk_cell BRf 0).trans rfl
      have q1 := (blk_cell BRf 1).trans rfl
      refine bodyPost_ret (v := .tuple #[.agg #[.int .i64 0, .int .i64 0], .int .i64 er]) ?_ rfl ⟨rfl, below_set (below_set HRB.out.hb (by omega)) (by omega)⟩
      simp [results, Tryd.f19, go_sem, q0, q1]
  · rw [Bool.not_eq_true] at hst
    have HST := Aside0.mk hst
    have HE : Aside0 (boundsL m l d known = ((0, 0), 1)) := ⟨by unfold boundsL; rw [if_neg (by rw [hst]; decide)]⟩
    rw [HE.out]
    clear HE hst HClean
    go_enter Tryd.func19, Tryd.ntmps19
    go_wp2_with (first
        | (go_at_call 23; (with_reducible refine (rstretch_calls d.f0 d.f1 false HST.out _).mono ?_); rintro e w1 ⟨rfl, hb⟩; replace HRB := Aside0.mk (HRB.out.below hb); obtain ⟨z0, z1, z2, z3, z4, z5, u0, u1, r0, r1⟩ := (HRB.out).cells; have rf0 := blk_frozen (HRB.out).bR 0; have rf1 := blk_frozen (HRB.out).bR 1; clear hb))
    have BRf := blk_put (blk_put HRB.out.bR 0 (.int .i64 0) rfl) 1 (.int .i64 0) rfl
    have q0 := (blk_cell BRf 0).trans rfl
    have q1 := (blk_cell BRf 1).trans rfl
    refine bodyPost_ret (v := .tuple #[.agg #[.int .i64 0, .int .i64 0], .int .i64 1]) ?_ rfl ⟨rfl, below_set (below_set HRB.out.hb (by omega)) (by omega)⟩
    simp [results, Tryd.f19, go_sem, q0, q1]
end Go.Proofs.YtknfkibnocfjiaaDoor.P
