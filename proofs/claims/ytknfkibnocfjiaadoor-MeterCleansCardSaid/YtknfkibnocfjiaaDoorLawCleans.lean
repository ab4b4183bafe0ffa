/- P27.2, the walk of the law MeterCleans: for all inputs it returns true. -/
import Derived.Test.YtknfkibnocfjiaaDoorMCleans
import Derived.Test.YtknfkibnocfjiaaDoorMKey
import Derived.Test.YtknfkibnocfjiaaDoorLawSame
namespace Go.Proofs.YtknfkibnocfjiaaDoor.P
open Go.RowKit Go.Proofs.YtknfkibnocfjiaaDoorW.PrintWords Go.Proofs.YtknfkibnocfjiaaDoorW.PrintLast Go.Proofs.YtknfkibnocfjiaaDoorW.PrintMore Go.Proofs.YtknfkibnocfjiaaDoor.M
open Go.Maps (Keyed int_keyed keyOf_int_mk)
set_option linter.unusedVariables false
set_option linter.unusedSimpArgs false
theorem cl_t {a b c : World} (h : Below a.heap.size a b) (k : Below b.heap.size b c) : Below a.heap.size a c := below_then h h.size k
theorem R_fresh {W : World} {base e : Nat} {α : Type} {d : Kd α} (hb : base ≤ W.heap.size) : d.R e (W.alloc (.cells #[] e)) base (fun _ => True) (.slice (some ⟨W.heap.size, 0, none⟩) 0 0) [] :=
  ⟨fun _ _ => trivial, [], by simpa using World.ownsRow_lit (base := base) (e := e) (size := d.sz) W #[] 0 hb (by decide) (by simp), Reps.none _ _⟩
theorem R_map {W W1 : World} {base e b n k : Nat} {α : Type} {d : Kd α} {v : Value} {xs : List α} {P : Program} {f : Value → Option Value} (h : d.R e W base (fun _ => True) v xs) (hm : MapAt W P k b f n) (hg : W.grownBy W1 (some b)) : d.R e W1 base (fun _ => True) v xs := by
  refine Kd.R_mono (Kd.R_step (Kd.R_bound h) (fun j hj hlt => hg.block j hlt (fun e => ?_))) (fun _ _ => trivial)
  injection e with e
  subst e
  obtain ⟨_, _, _, q, hq, cells, hc⟩ := hj
  obtain ⟨es, clk, ho, _⟩ := hm
  rw [ho] at hc; cases hc
open Classical in
/-- The readings that a list holds, as a map's entries. -/
noncomputable def hasV (s : List S43) : Value → Option Value := fun v => if v ∈ s.map enc43 then some (.bool true) else none
theorem enc43_inj {x y : S43} (h : enc43 x = enc43 y) : x = y := by
  unfold enc43 at h
  injection h with h
  have := congrArg Array.toList h
  simp only [List.cons.injEq, Value.int.injEq, true_and, and_true] at this
  cases x; cases y; simp_all
theorem hasV_mem {s : List S43} {x : S43} (h : x ∈ s) : hasV s (enc43 x) = some (.bool true) := by unfold hasV; rw [if_pos (List.mem_map.2 ⟨x, h, rfl⟩)]
theorem hasV_put (s : List S43) (x : S43) : ∀ v, putF (hasV s) (enc43 x) (.bool true) v = hasV (insL s x) v := fun v => by
  unfold putF hasV
  by_cases e : v = enc43 x
  · subst e
    rw [if_pos (List.mem_map.2 ⟨x, mem_insL.2 (.inl rfl), rfl⟩)]; simp
  · have : (v ∈ s.map enc43) ↔ (v ∈ (insL s x).map enc43) := by
      simp only [List.mem_map]
      constructor
      · rintro ⟨y, hy, rfl⟩; exact ⟨y, mem_insL.2 (.inr hy), rfl⟩
      · rintro ⟨y, hy, rfl⟩
        rcases mem_insL.1 hy with rfl | hy
        · exact absurd rfl e
        · exact ⟨y, hy, rfl⟩
    rw [if_neg e]
    by_cases h : v ∈ s.map enc43
    · rw [if_pos h, if_pos (this.1 h)]
    · rw [if_neg h, if_neg (fun h' => h (this.2 h'))]
theorem hasV_nil : ∀ v, (fun _ => none : Value → Option Value) v = hasV [] v := fun v => by unfold hasV; simp
theorem zeroB (W : World) : (zeroValue 4).run Tryd.prog W = .ok (.bool false) W := by kernel_rfl
/-- The state of the second loop: the two maps, the list that grows. -/
structure CK (BO BH nc : Nat) (c s own : List S43) (v : Value) (w4 W : World) : Prop where
  hb : Below w4.heap.size w4 W
  hof : MapAt W Tryd.prog 3 BO (intF enc43 (ofF c)) nc
  hhas : ∃ nh, MapAt W Tryd.prog 43 BH (hasV s) nh
  hown : Kd.R k43 43 W w4.heap.size (fun _ => True) v own
theorem CK.below {BO BH nc : Nat} {c s own : List S43} {v : Value} {w4 W W1 : World} (h : CK BO BH nc c s own v w4 W) (hb : Below W.heap.size W W1) : CK BO BH nc c s own v w4 W1 :=
  ⟨below_then h.hb h.hb.size hb, h.hof.kept hb, by obtain ⟨nh, hh⟩ := h.hhas; exact ⟨nh, hh.kept hb⟩, Kd.R_below h.hown hb⟩
theorem CK.turn {BO BH nc : Nat} {c s own own' : List S43} {v v' : Value} {w4 W W1 : World} (h : CK BO BH nc c s own v w4 W) (hb : Below W.heap.size W W1) (hr : Kd.R k43 43 W1 W.heap.size (fun _ => True) v' own') : CK BO BH nc c s own' v' w4 W1 :=
  ⟨below_then h.hb h.hb.size hb, h.hof.kept hb, by obtain ⟨nh, hh⟩ := h.hhas; exact ⟨nh, hh.kept hb⟩, Kd.R_lower hr h.hb.size⟩
theorem CK.put {BO BH nc nh n' : Nat} {c s own : List S43} {v : Value} {w4 W W1 : World} {x : S43} (h : CK BO BH nc c s own v w4 W) (hne : BO ≠ BH) (hle : w4.heap.size ≤ BH) (hh : MapAt W Tryd.prog 43 BH (hasV s) nh) (hm : MapAt W1 Tryd.prog 43 BH (putF (hasV s) (enc43 x) (.bool true)) n') (hg : W.grownBy W1 (some BH)) : CK BO BH nc c (insL s x) own v w4 W1 :=
  ⟨pw_below_grown h.hb _ h.hb.size hg (fun k e => by cases e; exact hle), h.hof.grown hg (fun e => hne (by injection e)), ⟨n', hm.congr (fun v => (hasV_put s x v).symm)⟩, R_map h.hown hh hg⟩
theorem clean_err {m : S25} {known : Int} {l : List S43} (h : (cleanL m l known).2 ≠ 0) : (cleanL m l known).1 = [] := by
  unfold cleanL at h ⊢
  split at h <;> rename_i h1
  · rw [if_pos h1]
    split at h <;> rename_i h2
    · rw [if_pos h2]
    · rw [if_neg h2]
      split at h <;> rename_i h3
      · rw [if_pos h3]
      · rw [if_neg h3]
        split at h <;> rename_i h4
        · rw [if_pos h4]
        · simp at h
  · rw [if_neg h1]
theorem ofF_free {c : List S43} (hr : c.Pairwise (fun x y => x.f1 < y.f1)) {i : Nat} (hi : i < c.length) : ofF (c.take i) (rd_T43 c (i : Int)).f1 = none := by
  cases h : ofF (c.take i) (rd_T43 c (i : Int)).f1 with
  | none => rfl
  | some y =>
    obtain ⟨h1, h2⟩ := (ofF_days _ (hr.sublist (List.take_sublist i c))).2 _ y h
    obtain ⟨j, hj, e⟩ := List.getElem_of_mem h1
    rw [List.length_take] at hj
    rw [List.getElem_take, ← rd43_get (by omega)] at e
    have := rise_rd hr (i := j) (j := i) (by omega) hi
    rw [e, h2] at this
    exact absurd this (Int.lt_irrefl _)

set_option maxHeartbeats 32000000 in
set_option maxRecDepth 100000 in
theorem MeterCleans_calls (m : S25) (A1 : Option Addr) (c1 : Nat) (l : List S43) (known : Int) (w : World)
    (hr1 : Kd.C k43 w A1 l.length l) (hc1 : l.length ≤ c1) (wm : wfM m) (wl : l.length ≤ maxLen ∧ ∀ x ∈ l, wfR x) (wk : (Lit.int .i64 known).wf = true) (hg : Gl w) :
    Calls Tryd.prog 4 #[.agg #[.int .i64 m.f0, .int .i64 m.f1, .int .i64 m.f2, .int .i64 m.f3, .int .i64 m.f4.f0, .int .i64 m.f4.f1], .slice A1 l.length c1, .int .i64 known] w fun e w' => e = .returned (.bool true) ∧ Below w.heap.size w w' := by
  have hu43 := Tryd.underlying43
  have hu25 := Tryd.underlying25
  have hu23 := Tryd.underlying23
  have HR1 := Aside0.mk hr1
  have HGl := Aside0.mk hg
  have HWL := Aside0.mk wl.2
  have HB := Aside0.mk (below_alloc (Below.refl w.heap.size w) (.cells #[.int .i64 m.f0, .int .i64 m.f1, .int .i64 m.f2, .int .i64 m.f3, .int .i64 m.f4.f0, .int .i64 m.f4.f1] 25))
  have BM := Aside0.mk (blk_new w (.cells #[.int .i64 m.f0, .int .i64 m.f1, .int .i64 m.f2, .int .i64 m.f3, .int .i64 m.f4.f0, .int .i64 m.f4.f1] 25))
  clear hr1 hg wm wl wk
  by_cases hfw : decide (l.length ≤ 60) = true
  · have HFw := Aside0.mk hfw
    have hl60 : l.length ≤ 60 := of_decide_eq_true hfw
    clear hfw
    by_cases hec : (cleanL m l known).2 = 0
    · have hk := clean_ok hec
      have HOwn := Aside0.mk (clean_own hec)
      have HBest : Aside0 (∀ r, r ∈ l → countsB m known r = true → ∃ y, ofF (cleanL m l known).1 r.f1 = some y ∧ r.f3 ≤ y.f3) := ⟨fun r h1 h2 => of_best hec h1 h2⟩
      have HIn : Aside0 (∀ r, r ∈ (cleanL m l known).1 → r ∈ ownL m l) := ⟨fun r h => mem_ownL.2 ⟨(mem_colL (by rw [(cleanL_ok hec).2.2] at h; exact h)).1, (counts_day (hk.counts r h)).1⟩⟩
      have hcl : (cleanL m l known).1.length ≤ 60 := by rw [(cleanL_ok hec).2.2]; exact Nat.le_trans (len_colL m known l) hl60
      have HROk : Aside0 (∀ r, r ∈ l → readingOk r = true) := ⟨by
        have h := (cleanL_ok hec).2.1
        unfold readingsL at h
        simp only [Bool.and_eq_true, decide_eq_true_eq, List.all_eq_true] at h
        exact h.2⟩
      have hvb := validM_bounds hk.valid
      have HC1 : Aside0 (∀ W, Kd.C k43 W A1 l.length l → Gl W → Calls Tryd.prog 13 #[.agg #[.int .i64 m.f0, .int .i64 m.f1, .int .i64 m.f2, .int .i64 m.f3, .int .i64 m.f4.f0, .int .i64 m.f4.f1], .slice A1 l.length c1, .int .i64 known] W fun e w' => ∃ v0 : Value, e = .returned (.tuple #[v0, .int .i64 0]) ∧ Kd.R k43 43 w' W.heap.size (fun _ => True) v0 (cleanL m l known).1 ∧ Below W.heap.size W w') := ⟨fun W h1 h2 => by
        have h := meter_Clean_calls m A1 c1 l known W h1 hc1 h2
        unfold RowPost43 at h
        rw [hec] at h; exact h⟩
      have HC2 : Aside0 (∀ W A k, Kd.C k43 W A (ownL m l).length (ownL m l) → (ownL m l).length ≤ k → Gl W → Calls Tryd.prog 13 #[.agg #[.int .i64 m.f0, .int .i64 m.f1, .int .i64 m.f2, .int .i64 m.f3, .int .i64 m.f4.f0, .int .i64 m.f4.f1], .slice A (ownL m l).length k, .int .i64 known] W fun e w' => ∃ v0 : Value, e = .returned (.tuple #[v0, .int .i64 0]) ∧ Kd.R k43 43 w' W.heap.size (fun _ => True) v0 (cleanL m l known).1 ∧ Below W.heap.size W w') := ⟨fun W A k h1 h3 h2 => by
        have h := meter_Clean_calls m A k (ownL m l) known W h1 h3 h2
        unfold RowPost43 at h
        rw [HOwn.out, hec] at h; exact h⟩
      have HK := Aside0.mk hk
      clear hk hec HOwn
      generalize (cleanL m l known).1 = c at *
      have hmm := @run_makeMap Tryd.prog
      go_enter Tryd.func4, Tryd.ntmps4
      go_upto_block 0 with (first
        | (go_at_call 11; (with_reducible refine (head_calls _ (HGl.out.below HB.out)).mono ?_); rintro e w1 ⟨rfl, hb⟩; replace HB := Aside0.mk (below_step HB.out hb); replace BM := Aside0.mk (blk_below BM.out hb); clear hb)
        | (go_at_call 12; (with_reducible refine (few0_calls A1 c1 l true HFw.out _ (Kd.C_below HR1.out HB.out) hc1).mono ?_); rintro e w1f ⟨rfl, hb⟩; replace HB := Aside0.mk (below_step HB.out hb); replace BM := Aside0.mk (blk_below BM.out hb); have z0 : w1f.cell? ⟨w.heap.size, 0, none⟩ = some (.int .i64 m.f0) := (blk_cell (BM.out) 0).trans rfl; have z1 : w1f.cell? ⟨w.heap.size, 1, none⟩ = some (.int .i64 m.f1) := (blk_cell (BM.out) 1).trans rfl; have z2 : w1f.cell? ⟨w.heap.size, 2, none⟩ = some (.int .i64 m.f2) := (blk_cell (BM.out) 2).trans rfl; have z3 : w1f.cell? ⟨w.heap.size, 3, none⟩ = some (.int .i64 m.f3) := (blk_cell (BM.out) 3).trans rfl; have z4 : w1f.cell? ⟨w.heap.size, 4, none⟩ = some (.int .i64 m.f4.f0) := (blk_cell (BM.out) 4).trans rfl; have z5 : w1f.cell? ⟨w.heap.size, 5, none⟩ = some (.int .i64 m.f4.f1) := (blk_cell (BM.out) 5).trans rfl; clear hb)
        | (go_at_call 13; (with_reducible refine (HC1.out _ (Kd.C_below HR1.out HB.out) (HGl.out.below HB.out)).mono ?_); rintro e w2 ⟨v, rfl, hR, hb⟩; obtain ⟨Ac, cc, rfl, hlc, hcc⟩ := Kd.R_reads hR; have HCc := Aside0.mk hcc; have HLc := Aside0.mk hlc; replace HB := Aside0.mk (below_step HB.out hb); replace BM := Aside0.mk (blk_below BM.out hb); clear hR hlc hcc hb))
      clear z0 z1 z2 z3 z4 z5 hmm
      have hs2 := blk_lt BM.out
      have HX : Aside0 (Below w2.heap.size w2 (w2.alloc (.map #[] 0))) := ⟨below_alloc (Below.refl _ _) _⟩
      have HM0 : Aside0 (MapAt (w2.alloc (.map #[] 0)) Tryd.prog 3 w2.heap.size (fun _ => none) 0) := ⟨MapAt.made w2 Tryd.prog 3⟩
      generalize w2.alloc (.map #[] 0) = w3 at *
      go_cut [] (fun wd => Aside0 (MapAt wd Tryd.prog 3 w2.heap.size (intF enc43 (ofF c)) c.length) ∧ Aside0 (Below w2.heap.size w2 wd))
      case first =>
        go_wp2
        go_loopg [47] c.length (fun gk v47 w' => ∃ i : Nat, v47 = .int .i64 i ∧ Aside0 (i ≤ c.length ∧ gk = c.length - i) ∧ Aside0 (MapAt w' Tryd.prog 3 w2.heap.size (intF enc43 (ofF (c.take i))) i) ∧ Aside0 (Below w2.heap.size w2 w'))
        case atStart => exact ⟨0, rfl, ⟨Nat.zero_le _, rfl⟩, ⟨by rw [List.take_zero]; exact (MapAt.congr HM0.out (fun x => by show intF enc43 (fun _ => none) x = none; rw [← intF_none]))⟩, HX⟩
        case round =>
          clear HM0 HX
          obtain ⟨i, rfl, HI, HM, HK2⟩ := hrel
          have hi := HI.out.1
          by_cases hlt : i < c.length
          · obtain ⟨ad, e, x0, x1, x2, x3⟩ := at_T43 HCc.out (i : Int) (by omega) (by omega)
            cases e
            simp only [Int.toNat_natCast] at x0 x1 x2 x3
            replace x0 := (HK2.out.cell (World.block_lt_of_cell? w2 _ x0)).trans x0
            replace x1 := (HK2.out.cell (World.block_lt_of_cell? w2 _ x1)).trans x1
            replace x2 := (HK2.out.cell (World.block_lt_of_cell? w2 _ x2)).trans x2
            replace x3 := (HK2.out.cell (World.block_lt_of_cell? w2 _ x3)).trans x3
            have HT := Aside0.mk (take43_snoc hlt)
            have HFree := Aside0.mk (ofF_free HK.out.rise hlt)
            have hdd := HK.out.counts _ (mem_rd hlt)
            have hdd' := counts_day hdd
            have hok' := readingOk_bounds (HK.out.ok _ (mem_rd hlt))
            have HRise : Aside0 (∀ j : Nat, i = j + 1 → (rd_T43 c (j : Int)).f1 < (rd_T43 c (i : Int)).f1) := ⟨fun j e => rise_rd HK.out.rise (by omega) hlt⟩
            have HXC := HCc.out
            generalize hx : rd_T43 c (i : Int) = x at *
            clear hx hdd
            have HD0 := Aside0.mk hdd'.1
            replace hdd' := hdd'.2
            have j0 : (0 : Int) ≤ (i : Int) := by omega
            have j1 : (i : Int) < (c.length : Int) := by omega
            have g1 : decide ((i : Int) < (c.length : Int)) = true := decide_eq_true j1
            have g2 : decide (i < c.length) = true := decide_eq_true hlt
            have BKx := blk_alloc (blk_below BM.out HK2.out) (.cells #[.int .i64 x.f0, .int .i64 x.f1, .int .i64 x.f2, .int .i64 x.f3] 43)
            have BX := Aside0.mk (blk_new wr (.cells #[.int .i64 x.f0, .int .i64 x.f1, .int .i64 x.f2, .int .i64 x.f3] 43))
            have HKa := Aside0.mk (below_alloc HK2.out (.cells #[.int .i64 x.f0, .int .i64 x.f1, .int .i64 x.f2, .int .i64 x.f3] 43))
            go_upto_region 11 with (fail)
            clear x0 x1 x2 x3 g1 g2
            have z0 : (wr.alloc (.cells #[.int .i64 x.f0, .int .i64 x.f1, .int .i64 x.f2, .int .i64 x.f3] 43)).cell? ⟨w.heap.size, 0, none⟩ = some (.int .i64 m.f0) := (blk_cell BKx 0).trans rfl
            have z1 : (wr.alloc (.cells #[.int .i64 x.f0, .int .i64 x.f1, .int .i64 x.f2, .int .i64 x.f3] 43)).cell? ⟨w.heap.size, 1, none⟩ = some (.int .i64 m.f1) := (blk_cell BKx 1).trans rfl
            have z2 : (wr.alloc (.cells #[.int .i64 x.f0, .int .i64 x.f1, .int .i64 x.f2, .int .i64 x.f3] 43)).cell? ⟨w.heap.size, 2, none⟩ = some (.int .i64 m.f2) := (blk_cell BKx 2).trans rfl
            have z3 : (wr.alloc (.cells #[.int .i64 x.f0, .int .i64 x.f1, .int .i64 x.f2, .int .i64 x.f3] 43)).cell? ⟨w.heap.size, 3, none⟩ = some (.int .i64 m.f3) := (blk_cell BKx 3).trans rfl
            have z4 : (wr.alloc (.cells #[.int .i64 x.f0, .int .i64 x.f1, .int .i64 x.f2, .int .i64 x.f3] 43)).cell? ⟨w.heap.size, 4, none⟩ = some (.int .i64 m.f4.f0) := (blk_cell BKx 4).trans rfl
            have z5 : (wr.alloc (.cells #[.int .i64 x.f0, .int .i64 x.f1, .int .i64 x.f2, .int .i64 x.f3] 43)).cell? ⟨w.heap.size, 5, none⟩ = some (.int .i64 m.f4.f1) := (blk_cell BKx 5).trans rfl
            have k0 : (wr.alloc (.cells #[.int .i64 x.f0, .int .i64 x.f1, .int .i64 x.f2, .int .i64 x.f3] 43)).cell? ⟨wr.heap.size, 0, none⟩ = some (.int .i64 x.f0) := (blk_cell BX.out 0).trans rfl
            have k1 : (wr.alloc (.cells #[.int .i64 x.f0, .int .i64 x.f1, .int .i64 x.f2, .int .i64 x.f3] 43)).cell? ⟨wr.heap.size, 1, none⟩ = some (.int .i64 x.f1) := (blk_cell BX.out 1).trans rfl
            have k2 : (wr.alloc (.cells #[.int .i64 x.f0, .int .i64 x.f1, .int .i64 x.f2, .int .i64 x.f3] 43)).cell? ⟨wr.heap.size, 2, none⟩ = some (.int .i64 x.f2) := (blk_cell BX.out 2).trans rfl
            have k3 : (wr.alloc (.cells #[.int .i64 x.f0, .int .i64 x.f1, .int .i64 x.f2, .int .i64 x.f3] 43)).cell? ⟨wr.heap.size, 3, none⟩ = some (.int .i64 x.f3) := (blk_cell BX.out 3).trans rfl
            have HMx := Aside0.mk (HM.out.alloc (.cells #[.int .i64 x.f0, .int .i64 x.f1, .int .i64 x.f2, .int .i64 x.f3] 43))
            clear HM
            generalize (wr.alloc (.cells #[.int .i64 x.f0, .int .i64 x.f1, .int .i64 x.f2, .int .i64 x.f3] 43)) = wx at *
            generalize wr.heap.size = gx at *
            go_cut [93] (fun v93 wd => v93 = .bool false ∧ Aside0 (Below wx.heap.size wx wd))
            case first =>
              rw [HD0.out] at k0
              have e2 : decide (known < x.f3) = false := decide_eq_false (by omega)
              have e3 : decide (x.f1 < m.f4.f0) = false := decide_eq_false (by omega)
              have e4 : decide (m.f4.f1 < x.f1) = false := decide_eq_false (by omega)
              clear hdd'
              rcases Nat.eq_zero_or_pos i with hi0 | hi0
              · have e0 : decide ((0 : Int) < (i : Int)) = false := decide_eq_false (by omega)
                have e0' : decide (0 < i) = false := decide_eq_false (by omega)
                have e0'' : decide ((i : Int) ≤ 0) = true := decide_eq_true (by omega)
                clear HRise HXC hi0
                go_quiet (fail)
                all_goals go_wp2
                all_goals go_meet
                case rel => exact ⟨rfl, ⟨by repeat (first | exact Below.refl _ _ | apply below_drew | apply pw_below_drewN)⟩⟩
              · obtain ⟨j, rfl⟩ : ∃ j, i = j + 1 := ⟨i - 1, by omega⟩
                obtain ⟨ad', e, y0, y1, y2, y3⟩ := at_T43 HXC (j : Int) (by omega) (by omega)
                cases e
                simp only [Int.toNat_natCast] at y0 y1 y2 y3
                replace y1 := (HKa.out.cell (World.block_lt_of_cell? w2 _ y1)).trans y1
                have hrs := HRise.out j rfl
                clear HRise HXC y0 y2 y3
                generalize rd_T43 c (j : Int) = y at *
                have e0 : decide ((0 : Int) < ((j + 1 : Nat) : Int)) = true := decide_eq_true (by omega)
                have e0' : decide ((0 : Int) < (j : Int) + 1) = true := decide_eq_true (by omega)
                have e0'' : decide (0 < j + 1) = true := decide_eq_true (by omega)
                have e5 : decide (x.f1 ≤ y.f1) = false := decide_eq_false (by omega)
                have hw1 : IntKind.i64.wrap ((j : Int) + 1 - 1) = (j : Int) := (Go.IntWalk.i64_in _ (by omega)).trans (by omega)
                have hw2 : IntKind.i64.wrap (((j + 1 : Nat) : Int) - 1) = (j : Int) := (Go.IntWalk.i64_in _ (by omega)).trans (by omega)
                have i0 : (0 : Int) ≤ (j : Int) := by omega
                have i1 : (j : Int) < (c.length : Int) := by omega
                clear hrs
                go_quiet (fail)
                all_goals go_wp2
                all_goals go_meet
                case rel => exact ⟨rfl, ⟨by repeat (first | exact Below.refl _ _ | apply below_drew | apply pw_below_drewN)⟩⟩
            case rest =>
              obtain ⟨rfl, HBq⟩ := hcut
              have HMy := Aside0.mk (HMx.out.kept HBq.out)
              have BXy := Aside0.mk (blk_below BX.out HBq.out)
              have HKy := Aside0.mk (below_step HKa.out HBq.out)
              clear z0 z1 z2 z3 z4 z5 k0 k1 k2 k3 BKx HKa HMx BX HBq HRise HXC
              have k0 : wc.cell? ⟨gx, 0, none⟩ = some (.int .i64 x.f0) := (blk_cell BXy.out 0).trans rfl
              have k1 : wc.cell? ⟨gx, 1, none⟩ = some (.int .i64 x.f1) := (blk_cell BXy.out 1).trans rfl
              have k2 : wc.cell? ⟨gx, 2, none⟩ = some (.int .i64 x.f2) := (blk_cell BXy.out 2).trans rfl
              have k3 : wc.cell? ⟨gx, 3, none⟩ = some (.int .i64 x.f3) := (blk_cell BXy.out 3).trans rfl
              go_wp2_with (first
                | (at_mapUpdate; refine wpList_store rfl (.tmp 94) (.tmp 96) (.tmp 97) 41 rfl 3 43 keyInt Tryd.underlying41 w2.heap.size i (intF enc43 (ofF (c.take i))) rfl HMy.out (.int .i64 x.f1) (enc43 x) (.int .i64 x.f1) rfl rfl (keyOf_int_mk Tryd.underlying3 (WalkArith.wf_i64 (by omega))) ?_; intro w5 hm5 hg5; have HM5 := Aside0.mk hm5; have HG5 := Aside0.mk hg5; clear hm5 hg5))
              go_roundg (c.length - (i + 1))
              case measure => have := HI.out; omega
              case rel =>
                refine ⟨i + 1, by go_num, ⟨by omega, rfl⟩, ⟨?_⟩, ⟨pw_below_grown HKy.out _ HKy.out.size HG5.out (fun k e => by cases e; exact Nat.le_refl _)⟩⟩
                have h := HM5.out
                rw [intF_some, HFree.out, intF_put] at h
                rw [HT.out, ofF_snoc]
                simpa using h
          · obtain rfl : i = c.length := by omega
            have g1 : decide ((c.length : Int) < (c.length : Int)) = false := decide_eq_false (by omega)
            have g2 : decide (c.length < c.length) = false := decide_eq_false (by omega)
            go_wp2
            go_meet
            case rel => exact ⟨⟨by have := HM.out; rwa [List.take_length] at this⟩, HK2⟩
      case rest =>
        obtain ⟨HM4, HB4⟩ := hcut
        clear HM0 HX
        have hmm := @run_makeMap Tryd.prog
        go_upto_block 2 with (fail)
        clear hmm
        have hlt4 := HM4.out.lt
        have BM4 := Aside0.mk (blk_below BM.out HB4.out)
        have HB44 := Aside0.mk (below_step HB.out HB4.out)
        have HCc4 := Aside0.mk (Kd.C_below HCc.out HB4.out)
        have HR4 := Aside0.mk (Kd.C_below HR1.out HB44.out)
        have HX : Aside0 (CK w2.heap.size wc.heap.size c.length c [] [] (.slice none 0 0) wc (wc.alloc (.map #[] 0))) := ⟨⟨below_alloc (Below.refl _ _) _, HM4.out.alloc _, ⟨0, (MapAt.made wc Tryd.prog 43).congr (fun v => (hasV_nil v).symm)⟩, Kd.R_nil _ _ _ _ _⟩⟩
        clear HM4 HB4 BM HCc HR1 HB
        obtain ⟨w4, rfl⟩ : ∃ w4 : World, w4 = wc := ⟨_, rfl⟩
        generalize w4.alloc (.map #[] 0) = w5 at *
        generalize w2.heap.size = BO at *
        go_cut [13] (fun v13 wd => ∃ v : Value, v13 = v ∧ Aside0 (CK BO w4.heap.size c.length c (ownL m l) (ownL m l) v w4 wd))
        case first =>
          go_wp2
          go_loopg [13, 102] l.length (fun gk v13 v102 w' => ∃ i : Nat, v102 = .int .i64 i ∧ Aside0 (i ≤ l.length ∧ gk = l.length - i) ∧ Aside0 (CK BO w4.heap.size c.length c (ownL m (l.take i)) (ownL m (l.take i)) v13 w4 w'))
          case atStart => exact ⟨0, rfl, ⟨Nat.zero_le _, rfl⟩, ⟨by rw [List.take_zero]; exact HX.out⟩⟩
          case round =>
            clear HX
            obtain ⟨i, rfl, HI, HS⟩ := hrel
            have hi := HI.out.1
            by_cases hlt : i < l.length
            · obtain ⟨ad, e, x0, x1, x2, x3⟩ := at_T43 HR4.out (i : Int) (by omega) (by omega)
              cases e
              simp only [Int.toNat_natCast] at x0 x1 x2 x3
              replace x0 := (HS.out.hb.cell (World.block_lt_of_cell? w4 _ x0)).trans x0
              replace x1 := (HS.out.hb.cell (World.block_lt_of_cell? w4 _ x1)).trans x1
              replace x2 := (HS.out.hb.cell (World.block_lt_of_cell? w4 _ x2)).trans x2
              replace x3 := (HS.out.hb.cell (World.block_lt_of_cell? w4 _ x3)).trans x3
              have HT := Aside0.mk (take43_snoc hlt)
              have HMem : Aside0 (rd_T43 l (i : Int) ∈ l) := ⟨mem_rd hlt⟩
              have hok' := readingOk_bounds (HROk.out _ HMem.out)
              have HLn : Aside0 ((ownL m (l.take i)).length ≤ i) := ⟨Nat.le_trans (ownL_len m _) (by rw [List.length_take]; omega)⟩
              have HBst := Aside0.mk (HBest.out _ HMem.out)
              have HStep : Aside0 (ownL m (l.take (i + 1)) = ownStep m (ownL m (l.take i)) (rd_T43 l (i : Int))) := ⟨by rw [HT.out, ownL_snoc]⟩
              clear HT
              generalize hx : rd_T43 l (i : Int) = x at *
              clear hx
              have j0 : (0 : Int) ≤ (i : Int) := by omega
              have j1 : (i : Int) < (l.length : Int) := by omega
              have g1 : decide ((i : Int) < (l.length : Int)) = true := decide_eq_true j1
              have g2 : decide (i < l.length) = true := decide_eq_true hlt
              have BKx := Aside0.mk (blk_alloc (blk_below BM4.out HS.out.hb) (.cells #[.int .i64 x.f0, .int .i64 x.f1, .int .i64 x.f2, .int .i64 x.f3] 43))
              have BX := Aside0.mk (blk_new wr (.cells #[.int .i64 x.f0, .int .i64 x.f1, .int .i64 x.f2, .int .i64 x.f3] 43))
              have HSx := Aside0.mk (HS.out.below (below_alloc (Below.refl _ _) (.cells #[.int .i64 x.f0, .int .i64 x.f1, .int .i64 x.f2, .int .i64 x.f3] 43)))
              clear HS
              go_upto_region 20 with (fail)
              clear x0 x1 x2 x3 g1 g2
              have z0 : (wr.alloc (.cells #[.int .i64 x.f0, .int .i64 x.f1, .int .i64 x.f2, .int .i64 x.f3] 43)).cell? ⟨w.heap.size, 0, none⟩ = some (.int .i64 m.f0) := (blk_cell BKx.out 0).trans rfl
              have z1 : (wr.alloc (.cells #[.int .i64 x.f0, .int .i64 x.f1, .int .i64 x.f2, .int .i64 x.f3] 43)).cell? ⟨w.heap.size, 1, none⟩ = some (.int .i64 m.f1) := (blk_cell BKx.out 1).trans rfl
              have z2 : (wr.alloc (.cells #[.int .i64 x.f0, .int .i64 x.f1, .int .i64 x.f2, .int .i64 x.f3] 43)).cell? ⟨w.heap.size, 2, none⟩ = some (.int .i64 m.f2) := (blk_cell BKx.out 2).trans rfl
              have z3 : (wr.alloc (.cells #[.int .i64 x.f0, .int .i64 x.f1, .int .i64 x.f2, .int .i64 x.f3] 43)).cell? ⟨w.heap.size, 3, none⟩ = some (.int .i64 m.f3) := (blk_cell BKx.out 3).trans rfl
              have z4 : (wr.alloc (.cells #[.int .i64 x.f0, .int .i64 x.f1, .int .i64 x.f2, .int .i64 x.f3] 43)).cell? ⟨w.heap.size, 4, none⟩ = some (.int .i64 m.f4.f0) := (blk_cell BKx.out 4).trans rfl
              have z5 : (wr.alloc (.cells #[.int .i64 x.f0, .int .i64 x.f1, .int .i64 x.f2, .int .i64 x.f3] 43)).cell? ⟨w.heap.size, 5, none⟩ = some (.int .i64 m.f4.f1) := (blk_cell BKx.out 5).trans rfl
              have k0 : (wr.alloc (.cells #[.int .i64 x.f0, .int .i64 x.f1, .int .i64 x.f2, .int .i64 x.f3] 43)).cell? ⟨wr.heap.size, 0, none⟩ = some (.int .i64 x.f0) := (blk_cell BX.out 0).trans rfl
              have k1 : (wr.alloc (.cells #[.int .i64 x.f0, .int .i64 x.f1, .int .i64 x.f2, .int .i64 x.f3] 43)).cell? ⟨wr.heap.size, 1, none⟩ = some (.int .i64 x.f1) := (blk_cell BX.out 1).trans rfl
              have k2 : (wr.alloc (.cells #[.int .i64 x.f0, .int .i64 x.f1, .int .i64 x.f2, .int .i64 x.f3] 43)).cell? ⟨wr.heap.size, 2, none⟩ = some (.int .i64 x.f2) := (blk_cell BX.out 2).trans rfl
              have k3 : (wr.alloc (.cells #[.int .i64 x.f0, .int .i64 x.f1, .int .i64 x.f2, .int .i64 x.f3] 43)).cell? ⟨wr.heap.size, 3, none⟩ = some (.int .i64 x.f3) := (blk_cell BX.out 3).trans rfl
              generalize (wr.alloc (.cells #[.int .i64 x.f0, .int .i64 x.f1, .int .i64 x.f2, .int .i64 x.f3] 43)) = wx at *
              generalize wr.heap.size = gx at *
              by_cases hid : x.f0 = m.f0
              · have HID := Aside0.mk hid
                have HStep2 : Aside0 (ownL m (l.take (i + 1)) = insL (ownL m (l.take i)) x) := ⟨by rw [HStep.out]; unfold ownStep; rw [if_pos hid]⟩
                rw [hid] at k0
                clear hid HStep
                obtain ⟨Ao, co, rfl, hlo, hro⟩ := Kd.R_reads HSx.out.hown
                have HRo := Aside0.mk hro
                clear hro
                have hgx2 : w4.heap.size < wx.heap.size := by obtain ⟨nh, hh⟩ := HSx.out.hhas; exact hh.lt
                have hown60 : (ownL m (l.take i)).length ≤ 60 := Nat.le_trans HLn.out (by omega)
                generalize ownL m (l.take i) = own at *
                clear HLn
                go_upto_block 4 with (fail)
                go_cut [17] (fun v17 wd => v17 = .int .i64 ((atL own x.f1 own.length : Nat) : Int) ∧ Aside0 (Below wx.heap.size wx wd))
                case first =>
                  clear z0 z1 z2 z3 z4 z5 k0 k2 k3 HSx HBst HStep2 HMem
                  go_wp2
                  go_loopg [17] own.length (fun gk v17 w' => ∃ k : Nat, v17 = .int .i64 k ∧ Aside0 (k ≤ own.length ∧ gk = k ∧ atL own x.f1 own.length = atL own x.f1 k) ∧ Aside0 (Below wx.heap.size wx w'))
                  case atStart => exact ⟨own.length, rfl, ⟨Nat.le_refl _, rfl, rfl⟩, ⟨Below.refl _ _⟩⟩
                  case round =>
                    clear k1
                    obtain ⟨k, rfl, HK3, HB3⟩ := hrel
                    have hk1 := HK3.out.1
                    have k1 : wr.cell? ⟨gx, 1, none⟩ = some (.int .i64 x.f1) := (blk_cell (blk_below BX.out HB3.out) 1).trans rfl
                    rcases Nat.eq_zero_or_pos k with hk0 | hk0
                    · have HZ : Aside0 (atL own x.f1 own.length = k) := ⟨by rw [HK3.out.2.2, hk0]; rfl⟩
                      have e0 : decide ((0 : Int) < (k : Int)) = false := decide_eq_false (by omega)
                      have e0' : decide (0 < k) = false := decide_eq_false (by omega)
                      have e0'' : decide ((k : Int) ≤ 0) = true := decide_eq_true (by omega)
                      clear hk0
                      go_upto_region 22 with (fail)
                      go_quiet (fail)
                      all_goals go_wp2
                      all_goals go_meet
                      case rel => exact ⟨by rw [HZ.out], ⟨pw_below_drewN HB3.out _⟩⟩
                    · obtain ⟨j, rfl⟩ : ∃ j, k = j + 1 := ⟨k - 1, by omega⟩
                      obtain ⟨ado, e, y0, y1, y2, y3⟩ := at_T43 (Kd.C_below HRo.out HB3.out) (j : Int) (by omega) (by omega)
                      subst e
                      simp only [Int.toNat_natCast] at y0 y1 y2 y3
                      clear y0 y2 y3 hk0
                      have HAt : Aside0 (atL own x.f1 (j + 1) = if (rd_T43 own (j : Int)).f1 < x.f1 then atL own x.f1 j else j + 1) := ⟨rfl⟩
                      generalize rd_T43 own (j : Int) = y at *
                      have e0 : decide ((0 : Int) < ((j + 1 : Nat) : Int)) = true := decide_eq_true (by omega)
                      have e0' : decide ((0 : Int) < (j : Int) + 1) = true := decide_eq_true (by omega)
                      have e0'' : decide (0 < j + 1) = true := decide_eq_true (by omega)
                      have hw1 : IntKind.i64.wrap ((j : Int) + 1 - 1) = (j : Int) := (Go.IntWalk.i64_in _ (by omega)).trans (by omega)
                      have hw2 : IntKind.i64.wrap (((j + 1 : Nat) : Int) - 1) = (j : Int) := (Go.IntWalk.i64_in _ (by omega)).trans (by omega)
                      have i0 : (0 : Int) ≤ (j : Int) := by omega
                      have i1 : (j : Int) < (own.length : Int) := by omega
                      by_cases hyx : y.f1 < x.f1
                      · have e5 : decide (y.f1 < x.f1) = true := decide_eq_true hyx
                        have HA2 : Aside0 (atL own x.f1 own.length = atL own x.f1 j) := ⟨by rw [HK3.out.2.2, HAt.out, if_pos hyx]⟩
                        clear hyx
                        go_upto_region 22 with (fail)
                        go_quiet (fail)
                        all_goals go_wp2
                        all_goals go_roundg j
                        case measure => have := HK3.out; omega
                        case rel => exact ⟨j, rfl, ⟨by omega, rfl, HA2.out⟩, ⟨pw_below_drewN HB3.out _⟩⟩
                      · have e5 : decide (y.f1 < x.f1) = false := decide_eq_false hyx
                        have HA2 : Aside0 (atL own x.f1 own.length = j + 1) := ⟨by rw [HK3.out.2.2, HAt.out, if_neg hyx]⟩
                        clear hyx
                        go_upto_region 22 with (fail)
                        go_quiet (fail)
                        all_goals go_wp2
                        all_goals go_meet
                        case rel => exact ⟨by first | (rw [HA2.out]; done) | (rw [HA2.out]; rfl), ⟨pw_below_drewN HB3.out _⟩⟩
                case rest =>
                  obtain ⟨rfl, HB3⟩ := hcut
                  have HIns : Aside0 (insL own x = [] ++ own.take (atL own x.f1 own.length) ++ [x] ++ own.drop (atL own x.f1 own.length)) := ⟨by rw [List.nil_append]; rfl⟩
                  have hat := atL_le own x.f1 own.length
                  generalize atL own x.f1 own.length = at_ at *
                  clear z0 z1 z2 z3 z4 z5 k0 k1 k2 k3
                  obtain ⟨wz, rfl⟩ : ∃ wz : World, wz = wc := ⟨_, rfl⟩
                  have HSz := Aside0.mk (HSx.out.below HB3.out)
                  have BXz := Aside0.mk (blk_below BX.out HB3.out)
                  have BMz := Aside0.mk (blk_below BKx.out HB3.out)
                  have HRz := Aside0.mk (Kd.C_below HRo.out HB3.out)
                  have hz4 : w4.heap.size < wz.heap.size := Nat.lt_of_lt_of_le hgx2 HB3.out.size
                  clear HSx BX BKx HRo HB3
                  go_upto_region 24 with (fail)
                  go_cut [13] (fun v13 wd => ∃ v : Value, v13 = v ∧ Aside0 (Kd.R k43 43 wd wz.heap.size (fun _ => True) v (insL own x)) ∧ Aside0 (Below wz.heap.size wz wd))
                  case first =>
                    have hcutt := cut_to (P := Tryd.prog) 27 43 .i64 Tryd.underlying27 (info_parts info43).choose_spec.1 Ao own.length co (at_ : Int) (by omega) (by omega) hlo
                    have hcutf := cut_from (P := Tryd.prog) 27 43 .i64 Tryd.underlying27 (info_parts info43).choose_spec.1 4 (info_parts info43).choose_spec.2.2.1 Ao own.length co (at_ : Int) (by omega) (by omega)
                    rw [Int.toNat_natCast] at hcutt hcutf
                    have HT1 : Aside0 (∀ W, Below wz.heap.size wz W → ReadsRow (k43.K W) k43.sz W Ao at_ (own.take at_)) := ⟨fun W hb => by
                      have h := Kd.C_take (m := at_) (Kd.C_below HRz.out hb) hat
                      rw [show (own.take at_).length = at_ by rw [List.length_take]; omega] at h
                      exact h⟩
                    have HT2 : Aside0 (∀ W, Below wz.heap.size wz W → ReadsRow (k43.K W) k43.sz W (if co = at_ then Ao else Ao.map (·.add (at_ * 4))) (own.length - at_) (own.drop at_)) := ⟨fun W hb => by
                      have h := Kd.C_drop (m := at_) (c := co) (Kd.C_below HRz.out hb) hat hlo
                      rw [show (own.drop at_).length = own.length - at_ by rw [List.length_drop]] at h
                      exact h⟩
                    generalize (if co = at_ then Ao else Ao.map (·.add (at_ * 4))) = A5 at *
                    generalize co - at_ = c5 at *
                    have hm5' : own.length - at_ ≤ 60 := by omega
                    have hat60 : at_ ≤ 60 := by omega
                    have hlt1 : (own.take at_).length ≤ 60 := by rw [List.length_take]; omega
                    generalize own.length - at_ = m5 at *
                    have k0 : wz.cell? ⟨gx, 0, none⟩ = some (.int .i64 x.f0) := (blk_cell BXz.out 0).trans rfl
                    have k1 : wz.cell? ⟨gx, 1, none⟩ = some (.int .i64 x.f1) := (blk_cell BXz.out 1).trans rfl
                    have k2 : wz.cell? ⟨gx, 2, none⟩ = some (.int .i64 x.f2) := (blk_cell BXz.out 2).trans rfl
                    have k3 : wz.cell? ⟨gx, 3, none⟩ = some (.int .i64 x.f3) := (blk_cell BXz.out 3).trans rfl
                    have HSC := Aside0.mk (fun W (h : Below wz.heap.size wz W) => show Below wz.heap.size wz W ∧ W.cell? ⟨gx, 0, none⟩ = some (.int .i64 x.f0) ∧ W.cell? ⟨gx, 1, none⟩ = some (.int .i64 x.f1) ∧ W.cell? ⟨gx, 2, none⟩ = some (.int .i64 x.f2) ∧ W.cell? ⟨gx, 3, none⟩ = some (.int .i64 x.f3) from ⟨h, (blk_cell (blk_below BXz.out h) 0).trans rfl, (blk_cell (blk_below BXz.out h) 1).trans rfl, (blk_cell (blk_below BXz.out h) 2).trans rfl, (blk_cell (blk_below BXz.out h) 3).trans rfl⟩)
                    have a0 : (0 : Int) ≤ (at_ : Int) := by omega
                    have a1 : (at_ : Int) ≤ (own.length : Int) := by omega
                    have a2 : (at_ : Int) ≤ (co : Int) := by omega
                    have HOA : Aside0 (Kd.R k43 43 (wz.alloc (.cells #[] 43)).drew wz.heap.size (fun _ => True) (.slice (some ⟨wz.heap.size, 0, none⟩) 0 0) []) := ⟨Kd.R_drew (R_fresh (Nat.le_refl _))⟩
                    have HOB : Aside0 (Kd.R k43 43 ((wz.alloc (.cells #[] 43)).alloc (.cells #[.int .i64 x.f0, .int .i64 x.f1, .int .i64 x.f2, .int .i64 x.f3] 43)).drew wz.heap.size (fun _ => True) (.slice (some ⟨wz.heap.size, 0, none⟩) 0 0) []) := ⟨Kd.R_drew (Kd.R_alloc (R_fresh (Nat.le_refl _)) _)⟩
                    have HOC : Aside0 (Kd.R k43 43 ((wz.alloc (.cells #[.int .i64 x.f0, .int .i64 x.f1, .int .i64 x.f2, .int .i64 x.f3] 43)).alloc (.cells #[] 43)).drew wz.heap.size (fun _ => True) (.slice (some ⟨wz.heap.size + 1, 0, none⟩) 0 0) []) := ⟨by
                      have h := R_fresh (d := k43) (e := 43) (base := wz.heap.size) (W := wz.alloc (.cells #[.int .i64 x.f0, .int .i64 x.f1, .int .i64 x.f2, .int .i64 x.f3] 43)) (by simp)
                      rw [World.size_alloc] at h
                      exact Kd.R_drew h⟩
                    have HLL1 : Aside0 ((([] : List S43).length + at_) * 32 ≤ 140737488355328) := ⟨by simp; omega⟩
                    have HLL2 : Aside0 ((([] ++ own.take at_ : List S43).length + 1) * 32 ≤ 140737488355328) := ⟨by rw [List.nil_append]; omega⟩
                    have HLL3 : Aside0 ((([] ++ own.take at_ ++ [x] : List S43).length + m5) * 32 ≤ 140737488355328) := ⟨by rw [List.nil_append, List.length_append, List.length_singleton]; omega⟩
                    clear HSz BXz BMz HBst HStep2 HMem
                    go_region_held3 (fun W => Below wz.heap.size wz W ∧ W.cell? ⟨gx, 0, none⟩ = some (.int .i64 x.f0) ∧ W.cell? ⟨gx, 1, none⟩ = some (.int .i64 x.f1) ∧ W.cell? ⟨gx, 2, none⟩ = some (.int .i64 x.f2) ∧ W.cell? ⟨gx, 3, none⟩ = some (.int .i64 x.f3))
                      (refine HSC.out _ (by repeat (first | exact HBc.out | exact HBb.out | exact HBa.out | exact Below.refl _ _ | apply below_drew | apply below_alloc)))
                      ((first
                        | (refine Kd.R_append_rows_step k43 (Rr := k43.K _) (w0 := wz) wz.heap.size (by rfl) (.tmp 128) (.tmp 131) 27 43 (.agg #[(.int .i64 0), (.int .i64 0), (.int .i64 0), (.int .i64 0)]) 32 (by rfl) Tryd.underlying27 info43 rfl (by decide) (by omega) (.slice (some ⟨wz.heap.size, 0, none⟩) 0 0) ([] : List S43) (own.take at_) Ao at_ co (fun _ => True) (fun _ => False) (by rfl) (by rfl) ?aO ?aR (fun y cs h => k43_KM _ _ y cs h) (fun _ h => h.elim) (fun _ _ => trivial) ?aB ?aS HLL1.out ?_
                           (case aO => first | exact HOA.out | exact HOB.out | exact HOC.out)
                           (case aR => exact HT1.out _ (by (repeat (first | exact Below.refl _ _ | exact HBb.out | exact HBa.out | apply below_drew | apply below_alloc))))
                           (case aB => (repeat (first | exact Below.refl _ _ | exact HBb.out | exact HBa.out | apply below_drew | apply below_alloc)))
                           (case aS => first | omega | (simp; done) | (simp; omega))
                           intro v5 w5 ho hb hg hat; have HOa := Aside0.mk ho; have HBa := Aside0.mk hb; (first | (have HQ : Aside0 (w5.heap[wz.heap.size + 1]? = some (.cells #[.int .i64 x.f0, .int .i64 x.f1, .int .i64 x.f2, .int .i64 x.f3] 43 (0, 0))) := ⟨blk_grown (blk_drew (blk_p1 wz _ _)) hg (fun e => by have e' : wz.heap.size + 1 = wz.heap.size := Option.some.inj e; omega)⟩) | (have HQ : Aside0 (w5.heap[wz.heap.size]? = some (.cells #[.int .i64 x.f0, .int .i64 x.f1, .int .i64 x.f2, .int .i64 x.f3] 43 (0, 0))) := ⟨blk_grown (blk_drew (blk_alloc (blk_new wz _) _)) hg (fun e => by have e' : wz.heap.size = wz.heap.size + 1 := Option.some.inj e; omega)⟩) | skip); clear ho hb hg hat)
                        | (refine Kd.R_append_rows_step k43 (Rr := k43.K _) (w0 := wz) wz.heap.size (by rfl) (.tmp 128) (.tmp 131) 27 43 (.agg #[(.int .i64 0), (.int .i64 0), (.int .i64 0), (.int .i64 0)]) 32 (by rfl) Tryd.underlying27 info43 rfl (by decide) (by omega) (.slice (some ⟨wz.heap.size + 1, 0, none⟩) 0 0) ([] : List S43) (own.take at_) Ao at_ co (fun _ => True) (fun _ => False) (by rfl) (by rfl) ?aO ?aR (fun y cs h => k43_KM _ _ y cs h) (fun _ h => h.elim) (fun _ _ => trivial) ?aB ?aS HLL1.out ?_
                           (case aO => first | exact HOA.out | exact HOB.out | exact HOC.out)
                           (case aR => exact HT1.out _ (by (repeat (first | exact Below.refl _ _ | exact HBb.out | exact HBa.out | apply below_drew | apply below_alloc))))
                           (case aB => (repeat (first | exact Below.refl _ _ | exact HBb.out | exact HBa.out | apply below_drew | apply below_alloc)))
                           (case aS => first | omega | (simp; done) | (simp; omega))
                           intro v5 w5 ho hb hg hat; have HOa := Aside0.mk ho; have HBa := Aside0.mk hb; (first | (have HQ : Aside0 (w5.heap[wz.heap.size + 1]? = some (.cells #[.int .i64 x.f0, .int .i64 x.f1, .int .i64 x.f2, .int .i64 x.f3] 43 (0, 0))) := ⟨blk_grown (blk_drew (blk_p1 wz _ _)) hg (fun e => by have e' : wz.heap.size + 1 = wz.heap.size := Option.some.inj e; omega)⟩) | (have HQ : Aside0 (w5.heap[wz.heap.size]? = some (.cells #[.int .i64 x.f0, .int .i64 x.f1, .int .i64 x.f2, .int .i64 x.f3] 43 (0, 0))) := ⟨blk_grown (blk_drew (blk_alloc (blk_new wz _) _)) hg (fun e => by have e' : wz.heap.size = wz.heap.size + 1 := Option.some.inj e; omega)⟩) | skip); clear ho hb hg hat)
                        | (refine Kd.R_append_rows_step k43 (Rr := k43.K _) (w0 := wz) wz.heap.size (by rfl) (.tmp 132) (.tmp 134) 27 43 (.agg #[(.int .i64 0), (.int .i64 0), (.int .i64 0), (.int .i64 0)]) 32 (by rfl) Tryd.underlying27 info43 rfl (by decide) (by omega) v5 ([] ++ own.take at_ : List S43) [x] _ 1 1 (fun _ => True) (fun _ => False) (by rfl) (by rfl) ?aO ?aR (fun y cs h => k43_KM _ _ y cs h) (fun _ h => h.elim) (fun _ _ => trivial) ?aB ?aS HLL2.out ?_
                           (case aO => first | exact HOa.out | exact Kd.R_alloc HOa.out _)
                           (case aR => first | exact k43_one x HQ.out | exact k43_one x (blk_new _ _))
                           (case aB => (repeat (first | exact Below.refl _ _ | exact HBb.out | exact HBa.out | apply below_drew | apply below_alloc)))
                           (case aS => first | exact HBa.out.size | (have := HBa.out.size; omega) | (have := HBa.out.size; simp; omega))
                           intro v6 w6 ho hb hg hat; have HOb := Aside0.mk ho; have HBb := Aside0.mk hb; clear ho hb hg hat)
                        | (refine Kd.R_append_rows_step k43 (Rr := k43.K _) (w0 := wz) wz.heap.size (by rfl) (.tmp 135) (.tmp 138) 27 43 (.agg #[(.int .i64 0), (.int .i64 0), (.int .i64 0), (.int .i64 0)]) 32 (by rfl) Tryd.underlying27 info43 rfl (by decide) (by omega) v6 ([] ++ own.take at_ ++ [x] : List S43) (own.drop at_) A5 m5 c5 (fun _ => True) (fun _ => False) (by rfl) (by rfl) ?aO ?aR (fun y cs h => k43_KM _ _ y cs h) (fun _ h => h.elim) (fun _ _ => trivial) ?aB ?aS HLL3.out ?_
                           (case aO => exact HOb.out)
                           (case aR => exact HT2.out _ HBb.out)
                           (case aB => exact HBb.out)
                           (case aS => exact HBb.out.size)
                           intro v7 w7 ho hb hg hat; have HOc := Aside0.mk ho; have HBc := Aside0.mk hb; clear ho hb hg hat)))
                    all_goals go_wp2
                    all_goals go_meet
                    all_goals (case rel => exact ⟨_, rfl, ⟨by rw [HIns.out]; exact HOc.out⟩, HBc⟩)
                  case rest =>
                    obtain ⟨vN, rfl, HRN, HBN⟩ := hcut
                    have HS8 := Aside0.mk (CK.turn HSz.out HBN.out HRN.out)
                    have BX8 := Aside0.mk (blk_below BXz.out HBN.out)
                    have BM8 := Aside0.mk (blk_below BMz.out HBN.out)
                    obtain ⟨nh, hh⟩ := HS8.out.hhas
                    have HHh := Aside0.mk hh
                    have hne : BO ≠ w4.heap.size := by omega
                    have hgxn : some gx ≠ some w4.heap.size := fun e => by
                      injection e with e
                      subst e
                      obtain ⟨es, clk, ho, _⟩ := hh
                      have h8 := BX8.out
                      rw [ho] at h8; cases h8
                    have hwn : some w.heap.size ≠ some w4.heap.size := fun e => by injection e with e; omega
                    obtain ⟨kl, hkl⟩ := key43_lit x (WalkArith.wf_i64 (by omega)) (WalkArith.wf_i64 (by omega)) (WalkArith.wf_i64 (by omega)) (WalkArith.wf_i64 (by omega))
                    have HKl := Aside0.mk hkl
                    have HNE := Aside0.mk hne
                    have HGN := Aside0.mk hgxn
                    have HWN := Aside0.mk hwn
                    clear hh hkl hne hgxn hwn HSz BXz BMz HRN HBN HRz
                    have k0 : wc.cell? ⟨gx, 0, none⟩ = some (.int .i64 x.f0) := (blk_cell BX8.out 0).trans rfl
                    have k1 : wc.cell? ⟨gx, 1, none⟩ = some (.int .i64 x.f1) := (blk_cell BX8.out 1).trans rfl
                    have k2 : wc.cell? ⟨gx, 2, none⟩ = some (.int .i64 x.f2) := (blk_cell BX8.out 2).trans rfl
                    have k3 : wc.cell? ⟨gx, 3, none⟩ = some (.int .i64 x.f3) := (blk_cell BX8.out 3).trans rfl
                    go_upto_region 26 with (first
                      | (at_mapUpdate; refine wpList_store rfl (.tmp 140) (.tmp 141) (.const (.bool true)) 44 rfl 43 4 key43 Tryd.underlying44 w4.heap.size nh (hasV own) rfl HHh.out (enc43 x) (.bool true) kl rfl rfl HKl.out ?_; intro w9 hm9 hg9; have HS9 := Aside0.mk (CK.put HS8.out HNE.out (Nat.le_refl _) HHh.out hm9 hg9); have BX9 := Aside0.mk (blk_grown BX8.out hg9 HGN.out); have BM9 := Aside0.mk (blk_grown BM8.out hg9 HWN.out); clear hm9 hg9))
                    clear k0 k1 k2 k3 HS8 BX8 BM8 HHh HKl HNE HGN HWN
                    have k1 : w9.cell? ⟨gx, 1, none⟩ = some (.int .i64 x.f1) := (blk_cell BX9.out 1).trans rfl
                    have k3 : w9.cell? ⟨gx, 3, none⟩ = some (.int .i64 x.f3) := (blk_cell BX9.out 3).trans rfl
                    have z4 : w9.cell? ⟨w.heap.size, 4, none⟩ = some (.int .i64 m.f4.f0) := (blk_cell BM9.out 4).trans rfl
                    have z5 : w9.cell? ⟨w.heap.size, 5, none⟩ = some (.int .i64 m.f4.f1) := (blk_cell BM9.out 5).trans rfl
                    have HFin := Aside0.mk (fun W (hb : Below w9.heap.size w9 W) => HS9.out.below hb)
                    by_cases t2 : x.f3 ≤ known
                    · have e2 : decide (known < x.f3) = false := decide_eq_false (by omega)
                      by_cases t3 : m.f4.f0 ≤ x.f1
                      · have e3 : decide (x.f1 < m.f4.f0) = false := decide_eq_false (by omega)
                        by_cases t4 : x.f1 ≤ m.f4.f1
                        · have e4 : decide (m.f4.f1 < x.f1) = false := decide_eq_false (by omega)
                          obtain ⟨y, hy1, hy2⟩ := HBst.out (by unfold countsB; rw [HID.out]; simp [t2, t3, t4])
                          have HG : Aside0 (intF enc43 (ofF c) (.int .i64 x.f1) = some (enc43 y)) := ⟨by rw [intF_at, hy1]; rfl⟩
                          have e5 : decide (y.f3 < x.f3) = false := decide_eq_false (by omega)
                          have k3' : (w9.alloc (.cells #[.int .i64 y.f0, .int .i64 y.f1, .int .i64 y.f2, .int .i64 y.f3] 43)).cell? ⟨gx, 3, none⟩ = some (.int .i64 x.f3) := (blk_cell (blk_alloc BX9.out _) 3).trans rfl
                          have b3 : (w9.alloc (.cells #[.int .i64 y.f0, .int .i64 y.f1, .int .i64 y.f2, .int .i64 y.f3] 43)).cell? ⟨w9.heap.size, 3, none⟩ = some (.int .i64 y.f3) := (blk_cell (blk_new w9 _) 3).trans rfl
                          clear hy1 hy2 t2 t3 t4
                          go_wp2_with (first
                            | (at_lookup; refine wpList_look rfl (.tmp 163) (.tmp 165) 41 true rfl 3 43 keyInt Tryd.underlying41 (enc43 z43) zero43 BO c.length (intF enc43 (ofF c)) rfl HS9.out.hof (.int .i64 x.f1) (.int .i64 x.f1) rfl (keyOf_int_mk Tryd.underlying3 (WalkArith.wf_i64 (by omega))) (some (enc43 y)) HG.out ?_; simp only [looked_true, Option.getD_some, Option.isSome_some, enc43, z43]))
                          go_roundg (l.length - (i + 1))
                          case measure => have := HI.out; omega
                          case rel => exact ⟨i + 1, by go_num, ⟨by omega, rfl⟩, ⟨by rw [HStep2.out]; exact HFin.out _ (below_alloc (Below.refl _ _) _)⟩⟩
                        · have e4 : decide (m.f4.f1 < x.f1) = true := decide_eq_true (by omega)
                          clear t2 t3 t4
                          go_wp2
                          go_roundg (l.length - (i + 1))
                          case measure => have := HI.out; omega
                          case rel => exact ⟨i + 1, by go_num, ⟨by omega, rfl⟩, ⟨by rw [HStep2.out]; exact HFin.out _ (Below.refl _ _)⟩⟩
                      · have e3 : decide (x.f1 < m.f4.f0) = true := decide_eq_true (by omega)
                        clear t2 t3
                        go_wp2
                        go_roundg (l.length - (i + 1))
                        case measure => have := HI.out; omega
                        case rel => exact ⟨i + 1, by go_num, ⟨by omega, rfl⟩, ⟨by rw [HStep2.out]; exact HFin.out _ (Below.refl _ _)⟩⟩
                    · have e2 : decide (known < x.f3) = true := decide_eq_true (by omega)
                      clear t2
                      go_wp2
                      go_roundg (l.length - (i + 1))
                      case measure => have := HI.out; omega
                      case rel => exact ⟨i + 1, by go_num, ⟨by omega, rfl⟩, ⟨by rw [HStep2.out]; exact HFin.out _ (Below.refl _ _)⟩⟩
              · have e1 : (x.f0 != m.f0) = true := by simp [hid]
                have HStep2 : Aside0 (ownL m (l.take (i + 1)) = ownL m (l.take i)) := ⟨by rw [HStep.out]; unfold ownStep; rw [if_neg hid]⟩
                clear hid HStep
                go_wp2
                go_roundg (l.length - (i + 1))
                case measure => have := HI.out; omega
                case rel => exact ⟨i + 1, by go_num, ⟨by omega, rfl⟩, ⟨by rw [HStep2.out]; exact HSx.out⟩⟩
            · obtain rfl : i = l.length := by omega
              have g1 : decide ((l.length : Int) < (l.length : Int)) = false := decide_eq_false (by omega)
              have g2 : decide (l.length < l.length) = false := decide_eq_false (by omega)
              go_wp2
              go_meet
              case rel => exact ⟨_, rfl, ⟨by have := HS.out; rwa [List.take_length] at this⟩⟩
        case rest =>
          obtain ⟨vO, rfl, HS⟩ := hcut
          clear HX
          obtain ⟨Ao, co, rfl, hlo, hro⟩ := Kd.R_reads HS.out.hown
          have HRo := Aside0.mk hro
          obtain ⟨nh, hh⟩ := HS.out.hhas
          have HHh := Aside0.mk hh
          have HB4 := Aside0.mk HS.out.hb
          clear hro hh HS
          obtain ⟨wy, rfl⟩ : ∃ wy : World, wy = wc := ⟨_, rfl⟩
          go_upto_block 6 with (fail)
          go_cut [] (fun wd => Aside0 (Below wy.heap.size wy wd))
          case first =>
            go_wp2
            go_loopg [181] c.length (fun gk v181 w' => ∃ i : Nat, v181 = .int .i64 i ∧ Aside0 (i ≤ c.length ∧ gk = c.length - i) ∧ Aside0 (Below wy.heap.size wy w'))
            case atStart => exact ⟨0, rfl, ⟨Nat.zero_le _, rfl⟩, ⟨Below.refl _ _⟩⟩
            case round =>
              obtain ⟨i, rfl, HI, HBy⟩ := hrel
              have hi := HI.out.1
              by_cases hlt : i < c.length
              · obtain ⟨ad, e, x0, x1, x2, x3⟩ := at_T43 (Kd.C_below (Kd.C_below HCc4.out HB4.out) HBy.out) (i : Int) (by omega) (by omega)
                cases e
                simp only [Int.toNat_natCast] at x0 x1 x2 x3
                have HV : Aside0 (hasV (ownL m l) (enc43 (rd_T43 c (i : Int))) = some (.bool true)) := ⟨hasV_mem (HIn.out _ (mem_rd hlt))⟩
                have hok' := readingOk_bounds (HK.out.ok _ (mem_rd hlt))
                generalize hx : rd_T43 c (i : Int) = x at *
                clear hx
                obtain ⟨kl, hkl⟩ := key43_lit x (WalkArith.wf_i64 (by omega)) (WalkArith.wf_i64 (by omega)) (WalkArith.wf_i64 (by omega)) (WalkArith.wf_i64 (by omega))
                have HKl := Aside0.mk hkl
                have HHr := Aside0.mk ((HHh.out.kept HBy.out).alloc (.cells #[.int .i64 x.f0, .int .i64 x.f1, .int .i64 x.f2, .int .i64 x.f3] 43))
                clear hkl
                have j0 : (0 : Int) ≤ (i : Int) := by omega
                have j1 : (i : Int) < (c.length : Int) := by omega
                have g1 : decide ((i : Int) < (c.length : Int)) = true := decide_eq_true j1
                have g2 : decide (i < c.length) = true := decide_eq_true hlt
                go_wp2_with (first
                  | (at_lookup; refine wpList_look rfl (.tmp 185) (.tmp 186) 44 false rfl 43 4 key43 Tryd.underlying44 (.bool false) zeroB w4.heap.size nh (hasV (ownL m l)) rfl HHr.out (enc43 x) kl rfl HKl.out (some (.bool true)) HV.out ?_; simp only [looked_false, Option.getD_some]))
                go_roundg (c.length - (i + 1))
                case measure => have := HI.out; omega
                case rel => exact ⟨i + 1, by go_num, ⟨by omega, rfl⟩, ⟨below_alloc HBy.out _⟩⟩
              · obtain rfl : i = c.length := by omega
                have g1 : decide ((c.length : Int) < (c.length : Int)) = false := decide_eq_false (by omega)
                have g2 : decide (c.length < c.length) = false := decide_eq_false (by omega)
                go_wp2
                go_meet
                case rel => exact HBy
          case rest =>
            have HB6 := Aside0.mk (cl_t HB4.out hcut.out)
            have HRo6 := Aside0.mk (Kd.C_below HRo.out hcut.out)
            have BM6 := Aside0.mk (blk_below BM4.out HB6.out)
            have HW6 := Aside0.mk (below_step HB44.out HB6.out)
            have HCc6 := Aside0.mk (Kd.C_below HCc4.out HB6.out)
            clear hcut HB4 HHh HRo HIn HBest HROk HWL HCc4
            have z0 : wc.cell? ⟨w.heap.size, 0, none⟩ = some (.int .i64 m.f0) := (blk_cell BM6.out 0).trans rfl
            have z1 : wc.cell? ⟨w.heap.size, 1, none⟩ = some (.int .i64 m.f1) := (blk_cell BM6.out 1).trans rfl
            have z2 : wc.cell? ⟨w.heap.size, 2, none⟩ = some (.int .i64 m.f2) := (blk_cell BM6.out 2).trans rfl
            have z3 : wc.cell? ⟨w.heap.size, 3, none⟩ = some (.int .i64 m.f3) := (blk_cell BM6.out 3).trans rfl
            have z4 : wc.cell? ⟨w.heap.size, 4, none⟩ = some (.int .i64 m.f4.f0) := (blk_cell BM6.out 4).trans rfl
            have z5 : wc.cell? ⟨w.heap.size, 5, none⟩ = some (.int .i64 m.f4.f1) := (blk_cell BM6.out 5).trans rfl
            go_wp2_with (first
              | (go_at_call 13; (with_reducible refine (HC2.out _ Ao co HRo6.out hlo (HGl.out.below HW6.out)).mono ?_); rintro e w8 ⟨v, rfl, hR, hb⟩; obtain ⟨Ad, cd, rfl, hld, hcd⟩ := Kd.R_reads hR; have HCd := Aside0.mk hcd; have HLd := Aside0.mk hld; have HW8 := Aside0.mk (below_step HW6.out hb); have HCc8 := Aside0.mk (Kd.C_below HCc6.out hb); clear hR hld hcd hb)
              | (go_at_call 17; (with_reducible refine (rsame_calls Ac cc Ad cd c _ HCc8.out HLc.out HCd.out HLd.out).mono ?_); rintro e w9 ⟨rfl, hb⟩; have HW9 := Aside0.mk (below_step HW8.out hb); clear hb))
            go_ret
            exact ⟨rfl, HW9.out⟩
    · have HC1 : Aside0 (∀ W, Kd.C k43 W A1 l.length l → Gl W → Calls Tryd.prog 13 #[.agg #[.int .i64 m.f0, .int .i64 m.f1, .int .i64 m.f2, .int .i64 m.f3, .int .i64 m.f4.f0, .int .i64 m.f4.f1], .slice A1 l.length c1, .int .i64 known] W fun e w' => ∃ v0 : Value, e = .returned (.tuple #[v0, .int .i64 (cleanL m l known).2]) ∧ Kd.R k43 43 w' W.heap.size (fun _ => True) v0 [] ∧ Below W.heap.size W w') := ⟨fun W h1 h2 => by
        have h := meter_Clean_calls m A1 c1 l known W h1 hc1 h2
        unfold RowPost43 at h
        rw [clean_err hec] at h; exact h⟩
      have e1 : ((cleanL m l known).2 != 0) = true := by simp [hec]
      clear hec
      generalize (cleanL m l known).2 = ec at *
      go_enter Tryd.func4, Tryd.ntmps4
      go_wp2_with (first
        | (go_at_call 11; (with_reducible refine (head_calls _ (HGl.out.below HB.out)).mono ?_); rintro e w1 ⟨rfl, hb⟩; replace HB := Aside0.mk (below_step HB.out hb); replace BM := Aside0.mk (blk_below BM.out hb); clear hb)
        | (go_at_call 12; (with_reducible refine (few0_calls A1 c1 l true HFw.out _ (Kd.C_below HR1.out HB.out) hc1).mono ?_); rintro e w1f ⟨rfl, hb⟩; replace HB := Aside0.mk (below_step HB.out hb); replace BM := Aside0.mk (blk_below BM.out hb); have z0 : w1f.cell? ⟨w.heap.size, 0, none⟩ = some (.int .i64 m.f0) := (blk_cell (BM.out) 0).trans rfl; have z1 : w1f.cell? ⟨w.heap.size, 1, none⟩ = some (.int .i64 m.f1) := (blk_cell (BM.out) 1).trans rfl; have z2 : w1f.cell? ⟨w.heap.size, 2, none⟩ = some (.int .i64 m.f2) := (blk_cell (BM.out) 2).trans rfl; have z3 : w1f.cell? ⟨w.heap.size, 3, none⟩ = some (.int .i64 m.f3) := (blk_cell (BM.out) 3).trans rfl; have z4 : w1f.cell? ⟨w.heap.size, 4, none⟩ = some (.int .i64 m.f4.f0) := (blk_cell (BM.out) 4).trans rfl; have z5 : w1f.cell? ⟨w.heap.size, 5, none⟩ = some (.int .i64 m.f4.f1) := (blk_cell (BM.out) 5).trans rfl; clear hb)
        | (go_at_call 13; (with_reducible refine (HC1.out _ (Kd.C_below HR1.out HB.out) (HGl.out.below HB.out)).mono ?_); rintro e w2 ⟨v, rfl, hR, hb⟩; obtain ⟨Ac, cc, rfl, hlc, hcc⟩ := Kd.R_reads hR; have HCc := Aside0.mk hcc; have HLc := Aside0.mk hlc; replace HB := Aside0.mk (below_step HB.out hb); replace BM := Aside0.mk (blk_below BM.out hb); clear hR hlc hcc hb))
      go_ret
      exact ⟨rfl, HB.out⟩
  · rw [Bool.not_eq_true] at hfw
    have HFw := Aside0.mk hfw
    clear hfw
    go_enter Tryd.func4, Tryd.ntmps4
    go_wp2_with (first
      | (go_at_call 11; (with_reducible refine (head_calls _ (HGl.out.below HB.out)).mono ?_); rintro e w1 ⟨rfl, hb⟩; replace HB := Aside0.mk (below_step HB.out hb); replace BM := Aside0.mk (blk_below BM.out hb); clear hb)
      | (go_at_call 12; (with_reducible refine (few0_calls A1 c1 l false HFw.out _ (Kd.C_below HR1.out HB.out) hc1).mono ?_); rintro e w1f ⟨rfl, hb⟩; replace HB := Aside0.mk (below_step HB.out hb); replace BM := Aside0.mk (blk_below BM.out hb); have z0 : w1f.cell? ⟨w.heap.size, 0, none⟩ = some (.int .i64 m.f0) := (blk_cell (BM.out) 0).trans rfl; have z1 : w1f.cell? ⟨w.heap.size, 1, none⟩ = some (.int .i64 m.f1) := (blk_cell (BM.out) 1).trans rfl; have z2 : w1f.cell? ⟨w.heap.size, 2, none⟩ = some (.int .i64 m.f2) := (blk_cell (BM.out) 2).trans rfl; have z3 : w1f.cell? ⟨w.heap.size, 3, none⟩ = some (.int .i64 m.f3) := (blk_cell (BM.out) 3).trans rfl; have z4 : w1f.cell? ⟨w.heap.size, 4, none⟩ = some (.int .i64 m.f4.f0) := (blk_cell (BM.out) 4).trans rfl; have z5 : w1f.cell? ⟨w.heap.size, 5, none⟩ = some (.int .i64 m.f4.f1) := (blk_cell (BM.out) 5).trans rfl; clear hb))
    go_ret
    exact ⟨rfl, HB.out⟩
end Go.Proofs.YtknfkibnocfjiaaDoor.P
