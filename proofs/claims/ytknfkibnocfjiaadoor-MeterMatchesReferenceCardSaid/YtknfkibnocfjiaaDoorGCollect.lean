/- The contract of meter.collect: the readings that count, by rising days. -/
import Derived.Test.YtknfkibnocfjiaaDoorGReadings
import Derived.Test.YtknfkibnocfjiaaDoorIterI
namespace Go.Proofs.YtknfkibnocfjiaaDoor.P
open Go.RowKit Go.Proofs.YtknfkibnocfjiaaDoorW.PrintWords Go.Proofs.YtknfkibnocfjiaaDoorW.PrintLast Go.Proofs.YtknfkibnocfjiaaDoorW.PrintMore Go.Proofs.YtknfkibnocfjiaaDoor.M
open Go.Maps (Keyed int_keyed keyOf_int_mk)
set_option linter.unusedVariables false
set_option linter.unusedSimpArgs false

def enc43 (x : S43) : Value := .agg #[.int .i64 x.f0, .int .i64 x.f1, .int .i64 x.f2, .int .i64 x.f3]
theorem keyInt : Keyed Tryd.prog 3 := int_keyed Tryd.underlying3
theorem zero43 (W : World) : (zeroValue 43).run Tryd.prog W = .ok (enc43 z43) W := by kernel_rfl

theorem k43_one {W : World} {b : Nat} {fr : Nat × Nat} (x : S43) (h : W.heap[b]? = some (.cells #[.int .i64 x.f0, .int .i64 x.f1, .int .i64 x.f2, .int .i64 x.f3] 43 fr)) : ReadsRow (k43.K W) k43.sz W (some ⟨b, 0, none⟩) 1 [x] := by
  refine ⟨rfl, by decide, fun _ => ⟨_, rfl, fun j p hj => ?_⟩⟩
  have hj0 : j = 0 := by
    have := (List.getElem?_eq_some_iff.1 hj).1
    simp at this; exact this
  subst hj0
  obtain rfl : x = p := by simpa using hj
  refine ⟨_, rfl, k43_mk W x, fun i u hu => ?_⟩
  rw [Nat.zero_mul, Nat.zero_add, add_plain]
  simp only [World.cell?, h]
  simpa using hu
theorem days_row {W : World} {b : Nat} {ns : List Int} {v : Value} {ss : List Int} {D : DataW Unit} (hnd : (Go.intKeys D).Nodup) (hr : RisI ns) (hm : ∀ x, x ∈ Go.intKeys D ↔ x ∈ ns)
    (hp : ss.Perm (Go.intKeys D)) (hrow : W.ownsRow b 3 1 v ss.length ((ss.mergeSort (fun x y => decide (x ≤ y))).map encZ)) : Kd.R (Kd.int .i64) 3 W b (fun _ => True) v ns := by
  have h1 := sort_ints (ss := ss) (ns := ns) (hp.symm.nodup hnd) hr (fun x => by rw [hp.mem_iff, hm x])
  rw [h1.1, h1.2] at hrow
  exact ⟨fun _ _ => trivial, ns.map (Value.int .i64), hrow, Kd.reps_scalar ns⟩
theorem k43_KM {w : World} (base : Nat) (okp : Nat → Prop) (x : S43) (cs : List Value) (h : k43.K w x cs) : k43.M w base okp x cs := by
  rw [k43_open h]; exact k43_mkM w base okp x
theorem colF_spec (m : S25) (known : Int) (l : List S43) (d : Int) : ∀ y, colF m known l d = some y → y ∈ l ∧ y.f1 = d ∧ countsB m known y = true := by
  refine snoc_ind (p := fun l => ∀ y, colF m known l d = some y → y ∈ l ∧ y.f1 = d ∧ countsB m known y = true) (fun y h => by simp [colF] at h) (fun l r ih y h => ?_) l
  rw [colF_snoc] at h
  unfold colStep at h
  split at h
  · rename_i hc
    simp only at h
    split at h
    · rename_i hd
      cases h
      exact ⟨by simp, hd.symm, hc.1⟩
    · obtain ⟨h1, h2⟩ := ih y h
      exact ⟨List.mem_append.2 (.inl h1), h2⟩
  · obtain ⟨h1, h2⟩ := ih y h
    exact ⟨List.mem_append.2 (.inl h1), h2⟩
theorem len_daysL (m : S25) (known : Int) (l : List S43) : (daysL m known l).length ≤ l.length := by
  refine snoc_ind (p := fun l => (daysL m known l).length ≤ l.length) (by simp [daysL]) (fun l r ih => ?_) l
  show (daysL m known (l ++ [r])).length ≤ (l ++ [r]).length
  rw [daysL_snoc, List.length_append]; unfold dayStep
  split
  · rw [len_putI _ _ (ris_daysL m known l)]; split <;> simp <;> omega
  · simp; omega

set_option maxHeartbeats 16000000 in
set_option maxRecDepth 100000 in
theorem meter_collect_calls (m : S25) (A0 : Option Addr) (c0 : Nat) (l0 : List S43) (known : Int) (w : World) (hr0 : Kd.C k43 w A0 l0.length l0) (hc0 : l0.length ≤ c0) (hok : readingsL l0 = true) :
    Calls Tryd.prog 29 #[.agg #[.int .i64 m.f0, .int .i64 m.f1, .int .i64 m.f2, .int .i64 m.f3, .int .i64 m.f4.f0, .int .i64 m.f4.f1], .slice A0 l0.length c0, .int .i64 known] w fun e w' => ∃ v0_ : Value, e = .returned v0_ ∧ Kd.R k43 43 w' w.heap.size (fun _ => True) v0_ (colL m known l0) ∧ Below w.heap.size w w' := by
  have hu43 := Tryd.underlying43
  have hu25 := Tryd.underlying25
  have HR0 := Aside0.mk hr0
  have HOK := Aside0.mk (show l0.length ≤ 1000 ∧ ∀ x ∈ l0, readingOk x = true by
    unfold readingsL at hok
    simp only [Bool.and_eq_true, decide_eq_true_eq, List.all_eq_true] at hok
    exact hok)
  have hlen := HOK.out.1
  have hmm := @run_makeMap Tryd.prog
  clear hr0 hc0 hok
  go_enter Tryd.func29, Tryd.ntmps29
  go_wp2
  have HB0 : Aside0 (Below w.heap.size w ((w.alloc (.cells #[.int .i64 m.f0, .int .i64 m.f1, .int .i64 m.f2, .int .i64 m.f3, .int .i64 m.f4.f0, .int .i64 m.f4.f1] 25)).alloc (.map #[] 0))) := ⟨below_alloc (below_alloc (Below.refl _ _) _) _⟩
  have BK0 : Aside0 (((w.alloc (.cells #[.int .i64 m.f0, .int .i64 m.f1, .int .i64 m.f2, .int .i64 m.f3, .int .i64 m.f4.f0, .int .i64 m.f4.f1] 25)).alloc (.map #[] 0)).heap[w.heap.size]? = some (.cells #[.int .i64 m.f0, .int .i64 m.f1, .int .i64 m.f2, .int .i64 m.f3, .int .i64 m.f4.f0, .int .i64 m.f4.f1] 25 (0, 0))) := ⟨blk_alloc (blk_new w _) _⟩
  have HM0 : Aside0 (MapAt ((w.alloc (.cells #[.int .i64 m.f0, .int .i64 m.f1, .int .i64 m.f2, .int .i64 m.f3, .int .i64 m.f4.f0, .int .i64 m.f4.f1] 25)).alloc (.map #[] 0)) Tryd.prog 3 (w.heap.size + 1) (fun _ => none) 0) := ⟨by
    have h := MapAt.made (w.alloc (.cells #[.int .i64 m.f0, .int .i64 m.f1, .int .i64 m.f2, .int .i64 m.f3, .int .i64 m.f4.f0, .int .i64 m.f4.f1] 25)) Tryd.prog 3
    simpa using h⟩
  clear hmm
  go_loopg [18] l0.length (fun gk v18 w' => ∃ i : Nat, v18 = .int .i64 i ∧ Aside0 (i ≤ l0.length ∧ gk = l0.length - i) ∧
    Aside0 (MapAt w' Tryd.prog 3 (w.heap.size + 1) (intF enc43 (colF m known (l0.take i))) (daysL m known (l0.take i)).length) ∧ Aside0 (w'.heap[w.heap.size]? = some (.cells #[.int .i64 m.f0, .int .i64 m.f1, .int .i64 m.f2, .int .i64 m.f3, .int .i64 m.f4.f0, .int .i64 m.f4.f1] 25 (0, 0))) ∧ Aside0 (Below w.heap.size w w'))
  case atStart => exact ⟨0, rfl, ⟨Nat.zero_le _, rfl⟩, ⟨by rw [List.take_zero]; exact (MapAt.congr HM0.out (fun x => by show intF enc43 (fun _ => none) x = none; rw [← intF_none]))⟩, BK0, HB0⟩
  case round =>
    obtain ⟨i, rfl, HI, HM, BK, HB⟩ := hrel
    have hi := HI.out.1
    by_cases hlt : i < l0.length
    · obtain ⟨ad, e, x0, x1, x2, x3⟩ := at_T43 HR0.out (i : Int) (by omega) (by omega)
      cases e
      simp only [Int.toNat_natCast] at x0 x1 x2 x3
      replace x0 := (HB.out.cell (World.block_lt_of_cell? w _ x0)).trans x0
      replace x1 := (HB.out.cell (World.block_lt_of_cell? w _ x1)).trans x1
      replace x2 := (HB.out.cell (World.block_lt_of_cell? w _ x2)).trans x2
      replace x3 := (HB.out.cell (World.block_lt_of_cell? w _ x3)).trans x3
      have HT := Aside0.mk (take43_snoc hlt)
      have hxo := HOK.out.2 _ (show rd_T43 l0 (i : Int) ∈ l0 by rw [rd43_get hlt]; exact List.getElem_mem hlt)
      have hday : 0 ≤ (rd_T43 l0 (i : Int)).f1 ∧ (rd_T43 l0 (i : Int)).f1 ≤ 36524 := by
        unfold readingOk inB at hxo
        simp only [Bool.and_eq_true, decide_eq_true_eq] at hxo
        exact hxo.1.1.2
      clear hxo
      generalize hx : rd_T43 l0 (i : Int) = x at *
      clear hx
      have m0 : (wr.alloc (.cells #[.int .i64 x.f0, .int .i64 x.f1, .int .i64 x.f2, .int .i64 x.f3] 43)).cell? ⟨w.heap.size, 0, none⟩ = some (.int .i64 m.f0) := (blk_cell (blk_alloc BK.out _) 0).trans rfl
      have m4 : (wr.alloc (.cells #[.int .i64 x.f0, .int .i64 x.f1, .int .i64 x.f2, .int .i64 x.f3] 43)).cell? ⟨w.heap.size, 4, none⟩ = some (.int .i64 m.f4.f0) := (blk_cell (blk_alloc BK.out _) 4).trans rfl
      have m5 : (wr.alloc (.cells #[.int .i64 x.f0, .int .i64 x.f1, .int .i64 x.f2, .int .i64 x.f3] 43)).cell? ⟨w.heap.size, 5, none⟩ = some (.int .i64 m.f4.f1) := (blk_cell (blk_alloc BK.out _) 5).trans rfl
      have BK' : Aside0 ((wr.alloc (.cells #[.int .i64 x.f0, .int .i64 x.f1, .int .i64 x.f2, .int .i64 x.f3] 43)).heap[w.heap.size]? = some (.cells #[.int .i64 m.f0, .int .i64 m.f1, .int .i64 m.f2, .int .i64 m.f3, .int .i64 m.f4.f0, .int .i64 m.f4.f1] 25 (0, 0))) := ⟨blk_alloc BK.out _⟩
      have HB' : Aside0 (Below w.heap.size w (wr.alloc (.cells #[.int .i64 x.f0, .int .i64 x.f1, .int .i64 x.f2, .int .i64 x.f3] 43))) := ⟨below_alloc HB.out _⟩
      by_cases t1 : x.f0 = m.f0
      · have e1 : (x.f0 != m.f0) = false := by simp [t1]
        by_cases t2 : x.f3 ≤ known
        · have e2 : decide (known < x.f3) = false := decide_eq_false (by omega)
          by_cases t3 : m.f4.f0 ≤ x.f1
          · have e3 : decide (x.f1 < m.f4.f0) = false := decide_eq_false (by omega)
            by_cases t4 : x.f1 ≤ m.f4.f1
            · have e4 : decide (m.f4.f1 < x.f1) = false := decide_eq_false (by omega)
              have hcf : countsB m known x = true := by unfold countsB; simp [t1, t2, t3, t4]
              clear t1 t2 t3 t4
              have HMx := Aside0.mk (HM.out.alloc (.cells #[.int .i64 x.f0, .int .i64 x.f1, .int .i64 x.f2, .int .i64 x.f3] 43))
              cases hold : colF m known (l0.take i) x.f1 with
              | none =>
                have HG : Aside0 (intF enc43 (colF m known (l0.take i)) (.int .i64 x.f1) = none) := ⟨by rw [intF_at, hold]; rfl⟩
                have hupd : ∀ old, colF m known (l0.take i) x.f1 = some old → old.f3 ≤ x.f3 := fun old h => by rw [hold] at h; cases h
                clear hold
                go_wp2_with (first
                  | (at_lookup; refine wpList_look rfl (.tmp 50) (.tmp 52) 41 true rfl 3 43 keyInt Tryd.underlying41 (enc43 z43) zero43 (w.heap.size + 1) (daysL m known (l0.take i)).length (intF enc43 (colF m known (l0.take i))) rfl HMx.out (.int .i64 x.f1) (.int .i64 x.f1) rfl (keyOf_int_mk Tryd.underlying3 (WalkArith.wf_i64 (by omega))) none HG.out ?_; simp only [looked_true, Option.getD_none, Option.isSome_none, enc43, z43])
                  | (at_mapUpdate; refine wpList_store rfl (.tmp 65) (.tmp 67) (.tmp 68) 41 rfl 3 43 keyInt Tryd.underlying41 (w.heap.size + 1) (daysL m known (l0.take i)).length (intF enc43 (colF m known (l0.take i))) rfl ?hM (.int .i64 x.f1) (enc43 x) (.int .i64 x.f1) rfl rfl (keyOf_int_mk Tryd.underlying3 (WalkArith.wf_i64 (by omega))) ?_; (case hM => exact HMx.out.alloc _); intro w3 hm3 hg3))
                have HM3 : Aside0 (MapAt w3 Tryd.prog 3 (w.heap.size + 1) (intF enc43 (colF m known (l0.take (i + 1)))) (daysL m known (l0.take (i + 1))).length) := ⟨by
                  rw [HT.out, colF_snoc, daysL_snoc, colStep, dayStep, if_pos ⟨hcf, hupd⟩, if_pos hcf, ← intF_put, len_putI _ _ (ris_daysL m known (l0.take i))]
                  rw [intF_some] at hm3
                  have hmem := mem_daysL m known (l0.take i) x.f1
                  by_cases hin : x.f1 ∈ daysL m known (l0.take i)
                  · rw [if_pos hin]; rw [if_pos (hmem.1 hin)] at hm3; exact hm3
                  · rw [if_neg hin]; rw [if_neg (fun h => hin (hmem.2 h))] at hm3; exact hm3⟩
                have BK3 : Aside0 (w3.heap[w.heap.size]? = some (.cells #[.int .i64 m.f0, .int .i64 m.f1, .int .i64 m.f2, .int .i64 m.f3, .int .i64 m.f4.f0, .int .i64 m.f4.f1] 25 (0, 0))) := ⟨(hg3.block w.heap.size (Array.getElem?_eq_some_iff.1 (blk_alloc BK'.out (.cells #[.int .i64 0, .int .i64 0, .int .i64 0, .int .i64 0] 43))).1 (by intro e; injection e with e; omega)).trans (blk_alloc BK'.out (.cells #[.int .i64 0, .int .i64 0, .int .i64 0, .int .i64 0] 43))⟩
                have HB3 : Aside0 (Below w.heap.size w w3) := ⟨(below_alloc HB'.out (.cells #[.int .i64 0, .int .i64 0, .int .i64 0, .int .i64 0] 43)).grown hg3 (by have := HB'.out.size; simp at this ⊢; omega) (by rintro k h; cases h; omega)⟩
                clear hm3 hg3 HM HMx HG HT hcf hupd BK' HB' BK HB
                go_wp2
                go_roundg (l0.length - (i + 1))
                case measure => have := HI.out; omega
                case rel => exact ⟨i + 1, by go_num, ⟨by omega, rfl⟩, HM3, BK3, HB3⟩
              | some old =>
                have HG : Aside0 (intF enc43 (colF m known (l0.take i)) (.int .i64 x.f1) = some (enc43 old)) := ⟨by rw [intF_at, hold]; rfl⟩
                by_cases hge : old.f3 ≤ x.f3
                · have e5 : decide (old.f3 ≤ x.f3) = true := decide_eq_true hge
                  have hupd : ∀ old, colF m known (l0.take i) x.f1 = some old → old.f3 ≤ x.f3 := fun old' h => by rw [hold] at h; cases h; exact hge
                  clear hold hge
                  go_wp2_with (first
                    | (at_lookup; refine wpList_look rfl (.tmp 50) (.tmp 52) 41 true rfl 3 43 keyInt Tryd.underlying41 (enc43 z43) zero43 (w.heap.size + 1) (daysL m known (l0.take i)).length (intF enc43 (colF m known (l0.take i))) rfl HMx.out (.int .i64 x.f1) (.int .i64 x.f1) rfl (keyOf_int_mk Tryd.underlying3 (WalkArith.wf_i64 (by omega))) (some (enc43 old)) HG.out ?_; simp only [looked_true, Option.getD_some, Option.isSome_some, enc43, z43])
                    | (at_mapUpdate; refine wpList_store rfl (.tmp 65) (.tmp 67) (.tmp 68) 41 rfl 3 43 keyInt Tryd.underlying41 (w.heap.size + 1) (daysL m known (l0.take i)).length (intF enc43 (colF m known (l0.take i))) rfl ?hM (.int .i64 x.f1) (enc43 x) (.int .i64 x.f1) rfl rfl (keyOf_int_mk Tryd.underlying3 (WalkArith.wf_i64 (by omega))) ?_; (case hM => exact HMx.out.alloc _); intro w3 hm3 hg3))
                  have HM3 : Aside0 (MapAt w3 Tryd.prog 3 (w.heap.size + 1) (intF enc43 (colF m known (l0.take (i + 1)))) (daysL m known (l0.take (i + 1))).length) := ⟨by
                    rw [HT.out, colF_snoc, daysL_snoc, colStep, dayStep, if_pos ⟨hcf, hupd⟩, if_pos hcf, ← intF_put, len_putI _ _ (ris_daysL m known (l0.take i))]
                    rw [intF_some] at hm3
                    have hmem := mem_daysL m known (l0.take i) x.f1
                    by_cases hin : x.f1 ∈ daysL m known (l0.take i)
                    · rw [if_pos hin]; rw [if_pos (hmem.1 hin)] at hm3; exact hm3
                    · rw [if_neg hin]; rw [if_neg (fun h => hin (hmem.2 h))] at hm3; exact hm3⟩
                  have BK3 : Aside0 (w3.heap[w.heap.size]? = some (.cells #[.int .i64 m.f0, .int .i64 m.f1, .int .i64 m.f2, .int .i64 m.f3, .int .i64 m.f4.f0, .int .i64 m.f4.f1] 25 (0, 0))) := ⟨(hg3.block w.heap.size (Array.getElem?_eq_some_iff.1 (blk_alloc BK'.out (.cells #[.int .i64 old.f0, .int .i64 old.f1, .int .i64 old.f2, .int .i64 old.f3] 43))).1 (by intro e; injection e with e; omega)).trans (blk_alloc BK'.out (.cells #[.int .i64 old.f0, .int .i64 old.f1, .int .i64 old.f2, .int .i64 old.f3] 43))⟩
                  have HB3 : Aside0 (Below w.heap.size w w3) := ⟨(below_alloc HB'.out (.cells #[.int .i64 old.f0, .int .i64 old.f1, .int .i64 old.f2, .int .i64 old.f3] 43)).grown hg3 (by have := HB'.out.size; simp at this ⊢; omega) (by rintro k h; cases h; omega)⟩
                  clear hm3 hg3 HM HMx HG HT hcf hupd BK' HB' BK HB
                  go_wp2
                  go_roundg (l0.length - (i + 1))
                  case measure => have := HI.out; omega
                  case rel => exact ⟨i + 1, by go_num, ⟨by omega, rfl⟩, HM3, BK3, HB3⟩
                · have e5 : decide (old.f3 ≤ x.f3) = false := decide_eq_false hge
                  have HM3 : Aside0 (MapAt ((wr.alloc (.cells #[.int .i64 x.f0, .int .i64 x.f1, .int .i64 x.f2, .int .i64 x.f3] 43)).alloc (.cells #[.int .i64 old.f0, .int .i64 old.f1, .int .i64 old.f2, .int .i64 old.f3] 43)) Tryd.prog 3 (w.heap.size + 1) (intF enc43 (colF m known (l0.take (i + 1)))) (daysL m known (l0.take (i + 1))).length) := ⟨by
                    rw [HT.out, colF_snoc, daysL_snoc, colStep, dayStep, if_neg (fun h => hge (h.2 old hold)), if_pos hcf, len_putI _ _ (ris_daysL m known (l0.take i)), if_pos ((mem_daysL m known (l0.take i) x.f1).2 (by rw [hold]; rfl))]
                    exact HMx.out.alloc _⟩
                  have BK3 := Aside0.mk (blk_alloc BK'.out (.cells #[.int .i64 old.f0, .int .i64 old.f1, .int .i64 old.f2, .int .i64 old.f3] 43))
                  have HB3 := Aside0.mk (below_alloc HB'.out (.cells #[.int .i64 old.f0, .int .i64 old.f1, .int .i64 old.f2, .int .i64 old.f3] 43))
                  clear hold hge
                  go_wp2_with (first
                    | (at_lookup; refine wpList_look rfl (.tmp 50) (.tmp 52) 41 true rfl 3 43 keyInt Tryd.underlying41 (enc43 z43) zero43 (w.heap.size + 1) (daysL m known (l0.take i)).length (intF enc43 (colF m known (l0.take i))) rfl HMx.out (.int .i64 x.f1) (.int .i64 x.f1) rfl (keyOf_int_mk Tryd.underlying3 (WalkArith.wf_i64 (by omega))) (some (enc43 old)) HG.out ?_; simp only [looked_true, Option.getD_some, Option.isSome_some, enc43, z43]))
                  go_roundg (l0.length - (i + 1))
                  case measure => have := HI.out; omega
                  case rel => exact ⟨i + 1, by go_num, ⟨by omega, rfl⟩, HM3, BK3, HB3⟩
            · have e4 : decide (m.f4.f1 < x.f1) = true := decide_eq_true (by omega)
              have hcf : countsB m known x = false := by unfold countsB; simp [t1, t2, t3, t4]
              clear t1 t2 t3 t4
              have HM' : Aside0 (MapAt (wr.alloc (.cells #[.int .i64 x.f0, .int .i64 x.f1, .int .i64 x.f2, .int .i64 x.f3] 43)) Tryd.prog 3 (w.heap.size + 1) (intF enc43 (colF m known (l0.take (i + 1)))) (daysL m known (l0.take (i + 1))).length) := ⟨by
                rw [HT.out, colF_snoc, daysL_snoc, colStep, dayStep, hcf, if_neg (fun h => Bool.noConfusion h.1), if_neg (by simp)]; exact HM.out.alloc _⟩
              clear HT hcf HM
              go_wp2
              go_roundg (l0.length - (i + 1))
              case measure => have := HI.out; omega
              case rel => exact ⟨i + 1, by go_num, ⟨by omega, rfl⟩, HM', BK', HB'⟩
          · have e3 : decide (x.f1 < m.f4.f0) = true := decide_eq_true (by omega)
            have hcf : countsB m known x = false := by unfold countsB; simp [t1, t2, t3]
            clear t1 t2 t3
            have HM' : Aside0 (MapAt (wr.alloc (.cells #[.int .i64 x.f0, .int .i64 x.f1, .int .i64 x.f2, .int .i64 x.f3] 43)) Tryd.prog 3 (w.heap.size + 1) (intF enc43 (colF m known (l0.take (i + 1)))) (daysL m known (l0.take (i + 1))).length) := ⟨by
              rw [HT.out, colF_snoc, daysL_snoc, colStep, dayStep, hcf, if_neg (fun h => Bool.noConfusion h.1), if_neg (by simp)]; exact HM.out.alloc _⟩
            clear HT hcf HM
            go_wp2
            go_roundg (l0.length - (i + 1))
            case measure => have := HI.out; omega
            case rel => exact ⟨i + 1, by go_num, ⟨by omega, rfl⟩, HM', BK', HB'⟩
        · have e2 : decide (known < x.f3) = true := decide_eq_true (by omega)
          have hcf : countsB m known x = false := by unfold countsB; simp [t1, t2]
          clear t1 t2
          have HM' : Aside0 (MapAt (wr.alloc (.cells #[.int .i64 x.f0, .int .i64 x.f1, .int .i64 x.f2, .int .i64 x.f3] 43)) Tryd.prog 3 (w.heap.size + 1) (intF enc43 (colF m known (l0.take (i + 1)))) (daysL m known (l0.take (i + 1))).length) := ⟨by
            rw [HT.out, colF_snoc, daysL_snoc, colStep, dayStep, hcf, if_neg (fun h => Bool.noConfusion h.1), if_neg (by simp)]; exact HM.out.alloc _⟩
          clear HT hcf HM
          go_wp2
          go_roundg (l0.length - (i + 1))
          case measure => have := HI.out; omega
          case rel => exact ⟨i + 1, by go_num, ⟨by omega, rfl⟩, HM', BK', HB'⟩
      · have e1 : (x.f0 != m.f0) = true := by simp [t1]
        have hcf : countsB m known x = false := by unfold countsB; simp [t1]
        clear t1
        have HM' : Aside0 (MapAt (wr.alloc (.cells #[.int .i64 x.f0, .int .i64 x.f1, .int .i64 x.f2, .int .i64 x.f3] 43)) Tryd.prog 3 (w.heap.size + 1) (intF enc43 (colF m known (l0.take (i + 1)))) (daysL m known (l0.take (i + 1))).length) := ⟨by
          rw [HT.out, colF_snoc, daysL_snoc, colStep, dayStep, hcf, if_neg (fun h => Bool.noConfusion h.1), if_neg (by simp)]; exact HM.out.alloc _⟩
        clear HT hcf HM
        go_wp2
        go_roundg (l0.length - (i + 1))
        case measure => have := HI.out; omega
        case rel => exact ⟨i + 1, by go_num, ⟨by omega, rfl⟩, HM', BK', HB'⟩
    · obtain rfl : i = l0.length := by omega
      have hN := len_daysL m known l0
      rw [List.take_length] at HM
      obtain ⟨D, hown, hsz, hnd, hmem⟩ := HM.out.keysInt (by simp only [maxLen]; omega) Tryd.underlying3
      have HS := Aside0.mk (Tryd.slices_Sorted_keys_43_44 (w.heap.size + 1) (daysL m known l0).length D _ wr hown (by rw [hsz]; simp only [maxLen]; omega) (by rw [hsz]; omega))
      have HKk := Aside0.mk (fun (mb : Option Nat) (W : World) => Tryd.maps_Keys_44 mb W)
      have HMm : Aside0 (∀ x, x ∈ Go.intKeys D ↔ x ∈ daysL m known l0) := ⟨fun x => by rw [hmem x, mem_daysL]; exact Iff.of_eq (congrArg (· = true) (intF_some enc43 (colF m known l0) x))⟩
      have HND := Aside0.mk hnd
      clear hnd hmem hown hsz HI hlt hi
      go_wp2_with (first
        | (go_at_call 44; (with_reducible refine (HKk.out _ _).mono ?_); rintro e w5 ⟨rfl, rfl⟩)
        | (go_at_call 43; (with_reducible refine HS.out.mono ?_); rintro e w6 ⟨v, ss, rfl, hp, hrow, hnil, hb⟩; obtain ⟨A5, c5, rfl, hl5, hc5⟩ := Kd.R_reads (days_row HND.out (ris_daysL m known l0) HMm.out hp hrow); have HRD := Aside0.mk hc5; have HM6 := Aside0.mk ((HM.out.alloc _).kept hb); have HB6 := Aside0.mk (below_step (below_alloc HB.out _) hb); clear hp hrow hnil hb hl5 hc5))
      clear HS HKk HND HM HB BK HM0 BK0 HB0
      have HDM := Aside0.mk (fun d (h : d ∈ daysL m known l0) => (mem_daysL m known l0 d).1 h)
      generalize hds : daysL m known l0 = ds at *
      go_loopg [12, 74] ds.length (fun gk v12 v74 w' => ∃ i : Nat, v74 = .int .i64 i ∧ Aside0 (i ≤ ds.length ∧ gk = ds.length - i) ∧
        Aside0 (Kd.R k43 43 w' w6.heap.size (fun _ => True) v12 ((ds.take i).map fun d => (colF m known l0 d).getD z43)) ∧ Aside0 (Below w6.heap.size w6 w'))
      case atStart => exact ⟨0, rfl, ⟨Nat.zero_le _, rfl⟩, ⟨by rw [List.take_zero]; exact Kd.R_nil _ _ _ _ _⟩, ⟨Below.refl _ _⟩⟩
      case round =>
        obtain ⟨i, rfl, HI, HO, HK⟩ := hrel
        have hi := HI.out.1
        by_cases hlt : i < ds.length
        · obtain ⟨ad, e, y0⟩ := Kd.at_int HRD.out (i : Int) (by omega) (by omega)
          cases e
          have hdm : rd ds (i : Int) = ds[i] := by
            unfold rd
            rw [Int.toNat_natCast, List.getD_eq_getElem?_getD, List.getElem?_eq_getElem hlt]; rfl
          rw [hdm, Int.toNat_natCast] at y0
          replace y0 := (HK.out.cell (World.block_lt_of_cell? w6 _ y0)).trans y0
          obtain ⟨y, hy⟩ := Option.isSome_iff_exists.1 (HDM.out _ (List.getElem_mem hlt))
          obtain ⟨hyl, hyd, _⟩ := colF_spec m known l0 ds[i] y hy
          have hday : 0 ≤ ds[i] ∧ ds[i] ≤ 36524 := by
            have hxo := HOK.out.2 y hyl
            unfold readingOk inB at hxo
            simp only [Bool.and_eq_true, decide_eq_true_eq] at hxo
            rw [← hyd]; exact hxo.1.1.2
          have HT : Aside0 ((ds.take (i + 1)).map (fun d => (colF m known l0 d).getD z43) = (ds.take i).map (fun d => (colF m known l0 d).getD z43) ++ [y]) := ⟨by
            rw [List.take_succ_eq_append_getElem hlt, List.map_append, List.map_singleton, hy]; rfl⟩
          have HG : Aside0 (intF enc43 (colF m known l0) (.int .i64 ds[i]) = some (enc43 y)) := ⟨by rw [intF_at, hy]; rfl⟩
          have HLn : Aside0 (((ds.take i).map (fun d => (colF m known l0 d).getD z43)).length ≤ 1000) := ⟨by rw [List.length_map, List.length_take]; omega⟩
          clear hy hyl hyd hdm
          generalize (ds.take i).map (fun d => (colF m known l0 d).getD z43) = xs at *
          generalize hd0 : ds[i] = d at *
          clear hd0
          have hxl := HLn.out
          go_wp2_with (first
            | (at_lookup; refine wpList_look rfl (.tmp 79) (.tmp 80) 41 false rfl 3 43 keyInt Tryd.underlying41 (enc43 z43) zero43 (w.heap.size + 1) _ (intF enc43 (colF m known l0)) rfl (HM6.out.kept HK.out) (.int .i64 d) (.int .i64 d) rfl (keyOf_int_mk Tryd.underlying3 (WalkArith.wf_i64 (by omega))) (some (enc43 y)) HG.out ?_; simp only [looked_false, Option.getD_some, enc43])
            | ((with_reducible refine gate_builtin (b := .append) (xs := #[.tmp 78, .tmp 82]) rfl ?_); at_builtin; refine Kd.R_append_rows k43 (w0 := w6) w6.heap.size rfl (.tmp 78) (.tmp 82) 27 43 (.agg #[(.int .i64 0), (.int .i64 0), (.int .i64 0), (.int .i64 0)]) 32 rfl Tryd.underlying27 info43 rfl (by decide) (by omega) u12 xs [y] _ 1 1 (fun _ => True) (fun _ => False) rfl rfl (Kd.R_alloc HO.out _) (k43_one y (blk_new _ _)) (fun x cs h => k43_KM _ _ x cs h) (fun _ h => h.elim) (fun _ _ => trivial) (below_alloc HK.out _) (by have := HK.out.size; simp; omega) (by omega) ?_; intro v2 w2 ho hb hg hat; have HO2 := Aside0.mk ho; have HK2 := Aside0.mk hb; clear ho hb hg hat))
          go_roundg (ds.length - (i + 1))
          case measure => have := HI.out; omega
          case rel => exact ⟨i + 1, by go_num, ⟨by omega, rfl⟩, ⟨by rw [HT.out]; exact HO2.out⟩, HK2⟩
        · obtain rfl : i = ds.length := by omega
          rw [List.take_length] at HO
          go_wp2
          go_ret
          exact ⟨_, rfl, Kd.R_lower (by unfold colL; rw [hds]; exact HO.out) HB6.out.size, below_step HB6.out HK.out⟩
end Go.Proofs.YtknfkibnocfjiaaDoor.P
