/- The contract of meter.Bounds. -/
import Derived.Test.YtknfkibnocfjiaaDoorGParts
import Derived.Test.YtknfkibnocfjiaaDoorPR3
import Derived.RangeFuncBox
namespace Go.Proofs.YtknfkibnocfjiaaDoor.P
open Go.RowKit Go.Shelf Go.Proofs.YtknfkibnocfjiaaDoorW.PrintWords Go.Proofs.YtknfkibnocfjiaaDoorW.PrintLast Go.Proofs.YtknfkibnocfjiaaDoorW.PrintMore Go.Proofs.YtknfkibnocfjiaaDoor.M
set_option linter.unusedVariables false
set_option linter.unusedSimpArgs false
attribute [local go_sem] Oper.semAt_some

/-- The bounds of a part, as the program computes them. -/
def bW (m : S25) (d : S23) (x : Part) : Int × Int := (meter_part_bounds.f x.a x.b x.s x.k m.f0 m.f1 m.f2 m.f3 m.f4.f0 m.f4.f1 d.f0 d.f1).getD (0, 0)
def accW (m : S25) (d : S23) (s : Int × Int) (x : Part) : Int × Int := (wrap64 (s.1 + (bW m d x).1), wrap64 (s.2 + (bW m d x).2))
def sumW (m : S25) (d : S23) (l : List Part) : Int × Int := l.foldl (accW m d) (0, 0)
theorem sumW_snoc (m : S25) (d : S23) (l : List Part) (x : Part) : sumW m d (l ++ [x]) = accW m d (sumW m d l) x := by unfold sumW; rw [List.foldl_append]; rfl
theorem bW_some {m : S25} (hm : 0 ≤ m.f3 ∧ m.f3 ≤ 100) (d : S23) (x : Part) : meter_part_bounds.f x.a x.b x.s x.k m.f0 m.f1 m.f2 m.f3 m.f4.f0 m.f4.f1 d.f0 d.f1 = some ((bW m d x).1, (bW m d x).2) := by
  unfold bW meter_part_bounds.f
  have h1 : ¬ wrap64 (1000 + m.f3) = 0 := by unfold wrap64; omega
  have h2 : ¬ wrap64 (1000 - m.f3) = 0 := by unfold wrap64; omega
  rw [if_neg h1, if_neg h2, if_neg h1, if_neg h2]
  split <;> rfl
/-- What Bounds returns. -/
def boundsL (m : S25) (l : List S43) (d : S23) (known : Int) : (Int × Int) × Int :=
  if stretchB d.f0 d.f1 = true then
    if (cleanL m l known).2 = 0 then (sumW m d (partsL m (cleanL m l known).1), 0) else ((0, 0), (cleanL m l known).2)
  else ((0, 0), 1)
def BoundsPost (w : World) (r : (Int × Int) × Int) (e : Ending) (w' : World) : Prop := e = .returned (.tuple #[.agg #[.int .i64 r.1.1, .int .i64 r.1.2], .int .i64 r.2]) ∧ Below w.heap.size w w'

theorem cleanL_ok {m : S25} {l : List S43} {known : Int} (h : (cleanL m l known).2 = 0) : validM m = true ∧ readingsL l = true ∧ (cleanL m l known).1 = colL m known l := by
  unfold cleanL at h ⊢
  by_cases h1 : (validM m && readingsL l && inB known 0 36524) = true
  · rw [if_pos h1] at h ⊢
    simp only [Bool.and_eq_true] at h1
    refine ⟨h1.1.1, h1.1.2, ?_⟩
    split at h
    · simp at h
    · rename_i h2
      rw [if_neg h2]
      split at h
      · simp at h
      · rename_i h3
        rw [if_neg h3]
        split at h
        · simp at h
        · rename_i h4; rw [if_neg h4]
  · rw [if_neg h1] at h; simp at h

theorem blkOwn {β : Type} (B k : Nat) (t : TypeId) (f : β → Array Value) : OwnFrom B (fun s W => W.heap[k]? = some (.cells (f s) t (0, 0))) := fun s X Y row h hg hr =>
  (hg.block k (blk_lt h) (fun e => by obtain ⟨_, o, ho, hc⟩ := hr k e.symm; rw [show X.heap[k]? = _ from h] at ho; cases ho; cases hc)).trans h
theorem bodyOther {W w5 : World} (hb : Below W.heap.size W w5) (o : Obj) (g i j : Nat) (u v : Value) : ∀ k, k ≠ g → k < W.heap.size → (((w5.alloc o).setCell ⟨g, i, none⟩ u).setCell ⟨g, j, none⟩ v).heap[k]? = W.heap[k]? := fun k hk hlt =>
  (Below.heap_setCell _ ⟨g, j, none⟩ _ k hk).trans ((Below.heap_setCell _ ⟨g, i, none⟩ _ k hk).trans ((Below.heap_alloc _ _ _ (Nat.lt_of_lt_of_le hlt hb.size)).trans (hb.block k hlt)))
theorem blk_p2 (w : World) (o o' o'' : Obj) : (((w.alloc o).alloc o').alloc o'').heap[w.heap.size + 1 + 1]? = some o'' := by
  have h := blk_new ((w.alloc o).alloc o') o''
  rwa [World.size_alloc, World.size_alloc] at h
set_option maxHeartbeats 16000000 in
set_option maxRecDepth 100000 in
theorem meter_Bounds_calls (m : S25) (A0 : Option Addr) (c0 : Nat) (l0 : List S43) (d : S23) (known : Int) (w : World) (hr0 : Kd.C k43 w A0 l0.length l0) (hc0 : l0.length ≤ c0) (hg : Gl w) :
    Calls Tryd.prog 18 #[.agg #[.int .i64 m.f0, .int .i64 m.f1, .int .i64 m.f2, .int .i64 m.f3, .int .i64 m.f4.f0, .int .i64 m.f4.f1], .slice A0 l0.length c0, .agg #[.int .i64 d.f0, .int .i64 d.f1], .int .i64 known] w (BoundsPost w (boundsL m l0 d known)) := by
  have hu43 := Tryd.underlying43
  have hu25 := Tryd.underlying25
  have hu23 := Tryd.underlying23
  have hu36 := Tryd.underlying36
  have hu77 := Tryd.underlying77
  have HR0 := Aside0.mk hr0
  have HC0 := Aside0.mk hc0
  have HGl := Aside0.mk hg
  have HSt := Aside0.mk (stretch_f d.f0 d.f1)
  clear hr0 hc0 hg
  by_cases hst : stretchB d.f0 d.f1 = true
  · rw [hst] at HSt
    by_cases hcl : (cleanL m l0 known).2 = 0
    · have HE : Aside0 (boundsL m l0 d known = (sumW m d (partsL m (cleanL m l0 known).1), 0)) := ⟨by unfold boundsL; rw [if_pos hst, if_pos hcl]⟩
      have HOK := Aside0.mk (cleanL_ok hcl)
      have HCl : Aside0 (∀ W, Kd.C k43 W A0 l0.length l0 → Gl W → Calls Tryd.prog 13 #[.agg #[.int .i64 m.f0, .int .i64 m.f1, .int .i64 m.f2, .int .i64 m.f3, .int .i64 m.f4.f0, .int .i64 m.f4.f1], .slice A0 l0.length c0, .int .i64 known] W fun e w' => ∃ v0_ : Value, e = .returned (.tuple #[v0_, .int .i64 0]) ∧ Kd.R k43 43 w' W.heap.size (fun _ => True) v0_ (cleanL m l0 known).1 ∧ Below W.heap.size W w') := ⟨fun W h1 h2 => by
        have h := meter_Clean_calls m A0 c0 l0 known W h1 HC0.out h2
        unfold RowPost43 at h
        rw [hcl] at h; exact h⟩
      obtain ⟨hvm, hrl, hcc⟩ := cleanL_ok hcl
      obtain ⟨hm0, hm1, hm2, hm3, hm4, hm5, hm6⟩ := validM_bounds hvm
      have HCO : Aside0 (∀ x ∈ (cleanL m l0 known).1, readingOk x = true) := ⟨fun x hx => by
        rw [hcc] at hx
        have h := mem_colL hx
        unfold readingsL at hrl
        simp only [Bool.and_eq_true, decide_eq_true_eq, List.all_eq_true] at hrl
        exact hrl.2 x h.1⟩
      have hcl' : (cleanL m l0 known).1.length ≤ 1000 := by
        rw [hcc]
        have h := len_colL m known l0
        unfold readingsL at hrl
        simp only [Bool.and_eq_true, decide_eq_true_eq] at hrl
        omega
      clear hst hcl HOK hvm hrl hcc
      rw [HE.out]
      clear HE
      generalize (cleanL m l0 known).1 = c at *
      have HBW := Aside0.mk (bW_some hm3 d)
      clear hm0 hm2 hm3 hm4 hm5 hm6
      refine (callsIn_wide (n := 6)).1 ?_
      refine callsIn_of_wp_marks Tryd.func18 rfl trivial ?_ rfl
      simp only [Tryd.ntmps18, List.size_toArray, List.length_cons, List.length_nil, Nat.reduceAdd, Nat.reduceSub, Array.replicate_succ, Array.replicate_zero, List.push_toArray, List.append_toArray, List.nil_append, List.cons_append]
      have HB := Aside0.mk (below_alloc (below_alloc (below_alloc (Below.refl w.heap.size w) (.cells #[.int .i64 m.f0, .int .i64 m.f1, .int .i64 m.f2, .int .i64 m.f3, .int .i64 m.f4.f0, .int .i64 m.f4.f1] 25)) (.cells #[.int .i64 d.f0, .int .i64 d.f1] 23)) (.cells #[.int .i64 0, .int .i64 0] 36))
      have BM := Aside0.mk (blk_alloc (blk_alloc (blk_new w (.cells #[.int .i64 m.f0, .int .i64 m.f1, .int .i64 m.f2, .int .i64 m.f3, .int .i64 m.f4.f0, .int .i64 m.f4.f1] 25)) (.cells #[.int .i64 d.f0, .int .i64 d.f1] 23)) (.cells #[.int .i64 0, .int .i64 0] 36))
      have BD := Aside0.mk (blk_alloc (blk_p1 w (.cells #[.int .i64 m.f0, .int .i64 m.f1, .int .i64 m.f2, .int .i64 m.f3, .int .i64 m.f4.f0, .int .i64 m.f4.f1] 25) (.cells #[.int .i64 d.f0, .int .i64 d.f1] 23)) (.cells #[.int .i64 0, .int .i64 0] 36))
      have BR := Aside0.mk (blk_p2 w (.cells #[.int .i64 m.f0, .int .i64 m.f1, .int .i64 m.f2, .int .i64 m.f3, .int .i64 m.f4.f0, .int .i64 m.f4.f1] 25) (.cells #[.int .i64 d.f0, .int .i64 d.f1] 23) (.cells #[.int .i64 0, .int .i64 0] 36))
      gi_wp2_with (first
        | (refine ⟨trivial, ?_⟩; gi_at_call 36; (with_reducible refine (callsIn_wide.2 (meter_stretch.calls d.f0 d.f1 true _ HSt.out)).mono ?_); rintro e w1 ⟨rfl, hb⟩; replace HB := Aside0.mk (below_step HB.out hb); replace BM := Aside0.mk (blk_below BM.out hb); replace BD := Aside0.mk (blk_below BD.out hb); replace BR := Aside0.mk (blk_below BR.out hb); have z0 : w1.cell? ⟨w.heap.size, 0, none⟩ = some (.int .i64 m.f0) := (blk_cell BM.out 0).trans rfl; have z1 : w1.cell? ⟨w.heap.size, 1, none⟩ = some (.int .i64 m.f1) := (blk_cell BM.out 1).trans rfl; have z2 : w1.cell? ⟨w.heap.size, 2, none⟩ = some (.int .i64 m.f2) := (blk_cell BM.out 2).trans rfl; have z3 : w1.cell? ⟨w.heap.size, 3, none⟩ = some (.int .i64 m.f3) := (blk_cell BM.out 3).trans rfl; have z4 : w1.cell? ⟨w.heap.size, 4, none⟩ = some (.int .i64 m.f4.f0) := (blk_cell BM.out 4).trans rfl; have z5 : w1.cell? ⟨w.heap.size, 5, none⟩ = some (.int .i64 m.f4.f1) := (blk_cell BM.out 5).trans rfl; clear hb)
        | (refine ⟨trivial, ?_⟩; gi_at_call 13; (with_reducible refine (callsIn_wide.2 (HCl.out _ (Kd.C_below HR0.out HB.out) (HGl.out.below HB.out))).mono ?_); rintro e w2 ⟨v, rfl, hR, hb⟩; obtain ⟨A1, c1, rfl, hl1, hc1⟩ := Kd.R_reads hR; have HR1 := Aside0.mk hc1; replace HB := Aside0.mk (below_step HB.out hb); replace BM := Aside0.mk (blk_below BM.out hb); replace BD := Aside0.mk (blk_below BD.out hb); replace BR := Aside0.mk (blk_below BR.out hb); have z0 : (w2.alloc (.cells #[.int .i64 0, .int .i64 0] 36)).cell? ⟨w.heap.size, 0, none⟩ = some (.int .i64 m.f0) := (blk_cell (blk_alloc BM.out _) 0).trans rfl; have z1 : (w2.alloc (.cells #[.int .i64 0, .int .i64 0] 36)).cell? ⟨w.heap.size, 1, none⟩ = some (.int .i64 m.f1) := (blk_cell (blk_alloc BM.out _) 1).trans rfl; have z2 : (w2.alloc (.cells #[.int .i64 0, .int .i64 0] 36)).cell? ⟨w.heap.size, 2, none⟩ = some (.int .i64 m.f2) := (blk_cell (blk_alloc BM.out _) 2).trans rfl; have z3 : (w2.alloc (.cells #[.int .i64 0, .int .i64 0] 36)).cell? ⟨w.heap.size, 3, none⟩ = some (.int .i64 m.f3) := (blk_cell (blk_alloc BM.out _) 3).trans rfl; have z4 : (w2.alloc (.cells #[.int .i64 0, .int .i64 0] 36)).cell? ⟨w.heap.size, 4, none⟩ = some (.int .i64 m.f4.f0) := (blk_cell (blk_alloc BM.out _) 4).trans rfl; have z5 : (w2.alloc (.cells #[.int .i64 0, .int .i64 0] 36)).cell? ⟨w.heap.size, 5, none⟩ = some (.int .i64 m.f4.f1) := (blk_cell (blk_alloc BM.out _) 5).trans rfl; clear hR hl1 hc1 hb)
        | (refine ⟨trivial, ?_⟩; gi_at_call 37; (with_reducible refine (callsIn_wide.2 (parts_calls m A1 c.length c1 _)).mono ?_); rintro e w3 ⟨rfl, rfl⟩))
      have BS := Aside0.mk (blk_alloc (blk_alloc (blk_new w2 (.cells #[.int .i64 0, .int .i64 0] 36)) (.cells #[.int .i64 m.f0, .int .i64 m.f1, .int .i64 m.f2, .int .i64 m.f3, .int .i64 m.f4.f0, .int .i64 m.f4.f1] 25)) (.cells #[.slice A1 c.length c1] 27))
      have BP := Aside0.mk (blk_alloc (blk_p1 w2 (.cells #[.int .i64 0, .int .i64 0] 36) (.cells #[.int .i64 m.f0, .int .i64 m.f1, .int .i64 m.f2, .int .i64 m.f3, .int .i64 m.f4.f0, .int .i64 m.f4.f1] 25)) (.cells #[.slice A1 c.length c1] 27))
      have BQ := Aside0.mk (blk_p2 w2 (.cells #[.int .i64 0, .int .i64 0] 36) (.cells #[.int .i64 m.f0, .int .i64 m.f1, .int .i64 m.f2, .int .i64 m.f3, .int .i64 m.f4.f0, .int .i64 m.f4.f1] 25) (.cells #[.slice A1 c.length c1] 27))
      have HB0 := Aside0.mk (below_alloc (below_alloc (below_alloc (Below.refl w2.heap.size w2) (.cells #[.int .i64 0, .int .i64 0] 36)) (.cells #[.int .i64 m.f0, .int .i64 m.f1, .int .i64 m.f2, .int .i64 m.f3, .int .i64 m.f4.f0, .int .i64 m.f4.f1] 25)) (.cells #[.slice A1 c.length c1] 27))
      have hs0 : (((w2.alloc (.cells #[.int .i64 0, .int .i64 0] 36)).alloc (.cells #[.int .i64 m.f0, .int .i64 m.f1, .int .i64 m.f2, .int .i64 m.f3, .int .i64 m.f4.f0, .int .i64 m.f4.f1] 25)).alloc (.cells #[.slice A1 c.length c1] 27)).heap.size = w2.heap.size + 3 := by simp
      have hsw := HB.out.size
      have hsR := blk_lt BR.out
      obtain ⟨W0, hW0⟩ : ∃ W0, ((w2.alloc (.cells #[.int .i64 0, .int .i64 0] 36)).alloc (.cells #[.int .i64 m.f0, .int .i64 m.f1, .int .i64 m.f2, .int .i64 m.f3, .int .i64 m.f4.f0, .int .i64 m.f4.f1] 25)).alloc (.cells #[.slice A1 c.length c1] 27) = W0 := ⟨_, rfl⟩
      rw [hW0] at BS BP BQ HB0 hs0 ⊢
      clear hW0 z0 z1 z2 z3 z4 z5
      have HGL2 := Aside0.mk (HGl.out.below HB.out)
      refine wpIn_rangeFunc_ownH rfl (by decide) (gf := 46) (lb := #[.pointer (some ⟨w2.heap.size + 1, 0, none⟩), .pointer (some ⟨w2.heap.size + 1 + 1, 0, none⟩)]) rfl trivial (enters_of Tryd.func46 (by kernel_rfl) rfl)
        (encs := encP) (Kp := KeepP w2.heap.size) (S := fun ys => ys = partsL m c) (Sp := fun pre => pre <+: partsL m c) (N := c.length + 1) (w0 := W0)
        (fun l J Jx W hW hJ hJx hY h0 => parts1_in m c A1 c1 w2 HR1.out HGL2.out ⟨by omega, hm1.2⟩ HCO.out hcl' _ l (by decide) J Jx W hJ hY (HB0.out.trans (hW.mono (by omega))) (by have := hW.size; omega) (blk_below BP.out hW) (blk_below BQ.out hW) h0)
        keepP_t (keepP_b (by omega)) (Below.refl _ _) (fun _ => rfl)
        (fun pre W => W.heap[w2.heap.size]? = some (.cells #[.int .i64 (sumW m d pre).1, .int .i64 (sumW m d pre).2] 36 (0, 0)) ∧ W.heap[w.heap.size]? = some (.cells #[.int .i64 m.f0, .int .i64 m.f1, .int .i64 m.f2, .int .i64 m.f3, .int .i64 m.f4.f0, .int .i64 m.f4.f1] 25 (0, 0)) ∧ W.heap[w.heap.size + 1]? = some (.cells #[.int .i64 d.f0, .int .i64 d.f1] 23 (0, 0)) ∧ W.heap[w.heap.size + 1 + 1]? = some (.cells #[.int .i64 0, .int .i64 0] 36 (0, 0)) ∧ Below w.heap.size w W)
        (fun _ _ _ => False)
        (OwnFrom.and (blkOwn _ _ _ (fun pre => #[.int .i64 (sumW m d pre).1, .int .i64 (sumW m d pre).2])) (OwnFrom.and (blkOwn _ _ _ (fun _ => _)) (OwnFrom.and (blkOwn _ _ _ (fun _ => _)) (OwnFrom.and (blkOwn _ _ _ (fun _ => _)) (ownFrom_below (Nat.le_refl _) (by omega))))))
        (fun _ _ _ _ _ hs _ _ => hs)
        ⟨BS.out, blk_below (w := w2) BM.out (HB0.out), blk_below (w := w2) BD.out HB0.out, blk_below (w := w2) BR.out HB0.out, below_step HB.out HB0.out⟩
        (fun x a' W => ∃ Bx, w2.heap.size < Bx ∧ W.heap[Bx]? = some (.cells #[.int .i64 x.a, .int .i64 x.b, .int .i64 x.s, .bool x.k] 77 (0, 0)) ∧ a' = { tmps := #[.agg #[.int .i64 m.f0, .int .i64 m.f1, .int .i64 m.f2, .int .i64 m.f3, .int .i64 m.f4.f0, .int .i64 m.f4.f1], .slice A0 l0.length c0, .agg #[.int .i64 d.f0, .int .i64 d.f1], .int .i64 known, .pointer (some ⟨w.heap.size, 0, none⟩), undef, .pointer (some ⟨w.heap.size + 1, 0, none⟩), undef, .pointer (some ⟨w.heap.size + 1 + 1, 0, none⟩), .int .i64 0,
          .slice A1 c.length c1, .int .i64 0, .pointer (some ⟨w2.heap.size, 0, none⟩), .pointer (some ⟨Bx, 0, none⟩), undef, .agg #[.int .i64 d.f0, .int .i64 d.f1], .bool true, .bool false, undef, .tuple #[.slice A1 c.length c1, .int .i64 0], .agg #[.int .i64 m.f0, .int .i64 m.f1, .int .i64 m.f2, .int .i64 m.f3, .int .i64 m.f4.f0, .int .i64 m.f4.f1], .slice A0 l0.length c0, .int .i64 known, .tuple #[.slice A1 c.length c1, .int .i64 0], .slice A1 c.length c1, .int .i64 0, .int .i64 0, .bool false, undef, undef,
          .agg #[.int .i64 m.f0, .int .i64 m.f1, .int .i64 m.f2, .int .i64 m.f3, .int .i64 m.f4.f0, .int .i64 m.f4.f1], .slice A1 c.length c1, .func (.func 46) #[] #[.pointer (some ⟨w2.heap.size + 1, 0, none⟩), .pointer (some ⟨w2.heap.size + 1 + 1, 0, none⟩)], .agg #[.int .i64 x.a, .int .i64 x.b, .int .i64 x.s, .bool x.k], undef, undef, undef, undef, undef, undef, undef, undef, undef, undef, undef, undef, undef, undef, undef, undef, undef], defers := [] })
        (fun x a' _ X Y row hs hg hr => by obtain ⟨Bx, h1, h2, h3⟩ := hs; exact ⟨Bx, h1, blkOwn W0.heap.size Bx 77 (fun (_ : Unit) => #[.int .i64 x.a, .int .i64 x.b, .int .i64 x.s, .bool x.k]) () X Y row h2 hg hr, h3⟩)
        ?assign ?body ?done ?stop
      case assign =>
        rintro l pre x W K ⟨hI1, hI2, hI3, hI4, hI5⟩ hK
        have J1 := Aside0.mk hI1
        have J2 := Aside0.mk hI2
        have J3 := Aside0.mk hI3
        have J4 := Aside0.mk hI4
        have J5 := Aside0.mk hI5
        clear hI1 hI2 hI3 hI4 hI5
        simp only [encP]
        gi_wp2
        refine hK _ _ ((KeepsOthers.alloc _ _).from _) (keepP_below ?_ (below_alloc (Below.refl _ _) _)) ⟨blk_alloc J1.out _, blk_alloc J2.out _, blk_alloc J3.out _, blk_alloc J4.out _, below_alloc J5.out _⟩ ⟨W.heap.size, blk_lt J1.out, blk_new W _, rfl⟩
        have := blk_lt J1.out
        omega
      case body =>
        rintro l pre x a' W hl ⟨r, hr⟩ ⟨hI1, hI2, hI3, hI4, hI5⟩ ⟨Bx, hBx, bX, rfl⟩ hlt
        have J1 := Aside0.mk hI1
        have J2 := Aside0.mk hI2
        have J3 := Aside0.mk hI3
        have J4 := Aside0.mk hI4
        have J5 := Aside0.mk hI5
        have BX := Aside0.mk bX
        have x0 : W.cell? ⟨Bx, 0, none⟩ = some (.int .i64 x.a) := (blk_cell bX 0).trans rfl
        have x1 : W.cell? ⟨Bx, 1, none⟩ = some (.int .i64 x.b) := (blk_cell bX 1).trans rfl
        have x2 : W.cell? ⟨Bx, 2, none⟩ = some (.int .i64 x.s) := (blk_cell bX 2).trans rfl
        have x3 : W.cell? ⟨Bx, 3, none⟩ = some (.bool x.k) := (blk_cell bX 3).trans rfl
        have z0 : W.cell? ⟨w.heap.size, 0, none⟩ = some (.int .i64 m.f0) := (blk_cell hI2 0).trans rfl
        have z1 : W.cell? ⟨w.heap.size, 1, none⟩ = some (.int .i64 m.f1) := (blk_cell hI2 1).trans rfl
        have z2 : W.cell? ⟨w.heap.size, 2, none⟩ = some (.int .i64 m.f2) := (blk_cell hI2 2).trans rfl
        have z3 : W.cell? ⟨w.heap.size, 3, none⟩ = some (.int .i64 m.f3) := (blk_cell hI2 3).trans rfl
        have z4 : W.cell? ⟨w.heap.size, 4, none⟩ = some (.int .i64 m.f4.f0) := (blk_cell hI2 4).trans rfl
        have z5 : W.cell? ⟨w.heap.size, 5, none⟩ = some (.int .i64 m.f4.f1) := (blk_cell hI2 5).trans rfl
        have d0 : W.cell? ⟨w.heap.size + 1, 0, none⟩ = some (.int .i64 d.f0) := (blk_cell hI3 0).trans rfl
        have d1 : W.cell? ⟨w.heap.size + 1, 1, none⟩ = some (.int .i64 d.f1) := (blk_cell hI3 1).trans rfl
        have HSN : Aside0 (sumW m d (pre ++ [x]) = (wrap64 ((sumW m d pre).1 + (bW m d x).1), wrap64 ((sumW m d pre).2 + (bW m d x).2))) := ⟨sumW_snoc m d pre x⟩
        have hr' := Aside0.mk hr
        clear hI1 hI2 hI3 hI4 hI5 bX hr
        generalize hq1 : (sumW m d pre).1 = s1 at *
        generalize hq2 : (sumW m d pre).2 = s2 at *
        generalize hb1 : (bW m d x).1 = b1 at *
        generalize hb2 : (bW m d x).2 = b2 at *
        have HB38 : Aside0 (meter_part_bounds.f x.a x.b x.s x.k m.f0 m.f1 m.f2 m.f3 m.f4.f0 m.f4.f1 d.f0 d.f1 = some (b1, b2)) := ⟨by rw [HBW.out x, hb1, hb2]⟩
        clear hq1 hq2 hb1 hb2
        gi_wp2_with (first
          | (refine ⟨trivial, ?_⟩; gi_at_call 38; (with_reducible refine (CallsIn.inRound l (callsIn_wide.2 (meter_part_bounds.calls x.a x.b x.s x.k m.f0 m.f1 m.f2 m.f3 m.f4.f0 m.f4.f1 d.f0 d.f1 b1 b2 _ HB38.out))).mono ?_); rintro e w5 ⟨rfl, hb⟩; have HB5 := Aside0.mk hb; have s0 : (w5.alloc (.cells #[.int .i64 b1, .int .i64 b2] 36)).cell? ⟨w2.heap.size, 0, none⟩ = some (.int .i64 s1) := (blk_cell (blk_alloc (blk_below J1.out hb) _) 0).trans rfl; have s1' : (w5.alloc (.cells #[.int .i64 b1, .int .i64 b2] 36)).cell? ⟨w2.heap.size, 1, none⟩ = some (.int .i64 s2) := (blk_cell (blk_alloc (blk_below J1.out hb) _) 1).trans rfl; have sf0 := blk_frozen (blk_alloc (blk_below J1.out hb) (.cells #[.int .i64 b1, .int .i64 b2] 36)) 0; have sf1 := blk_frozen (blk_alloc (blk_below J1.out hb) (.cells #[.int .i64 b1, .int .i64 b2] 36)) 1; clear hb))
        have HE5 := Aside0.mk (bodyOther HB5.out (.cells #[.int .i64 b1, .int .i64 b2] 36) w2.heap.size 0 1 (.int .i64 (wrap64 (s1 + b1))) (.int .i64 (wrap64 (s2 + b2))))
        have hgW := blk_lt J1.out
        have hJ1 := J1.out
        refine ⟨⟨?_, fun k o hk ho hc => ?_⟩, ⟨?_, fun k o hk ho hc => (HE5.out k hk (Array.getElem?_eq_some_iff.1 ho).1).trans ho⟩, ?_, (HE5.out _ (by omega) (blk_lt J2.out)).trans J2.out, (HE5.out _ (by omega) (blk_lt J3.out)).trans J3.out, (HE5.out _ (by omega) (blk_lt J4.out)).trans J4.out, ?_⟩
        · have := HB5.out.size; simp [World.setCell]; omega
        · have hne : k ≠ w2.heap.size := fun e => by subst e; rw [hJ1] at ho; cases ho; cases hc
          exact (HE5.out k hne (Array.getElem?_eq_some_iff.1 ho).1).trans ho
        · exact (((HB5.out.mono (Nat.le_of_lt hgW)).alloc (Nat.le_trans (Nat.le_of_lt hgW) HB5.out.size) _).setCell (p := ⟨w2.heap.size, 0, none⟩) (Nat.le_refl _) _).setCell (p := ⟨w2.heap.size, 1, none⟩) (Nat.le_refl _) _
        · rw [HSN.out]
          exact blk_put (blk_put (blk_alloc (blk_below J1.out HB5.out) _) 0 _ rfl) 1 _ rfl
        · exact below_set (below_set (below_alloc (below_step J5.out HB5.out) _) hsw) hsw
      case done =>
        rintro D ys W hD rfl ⟨hI1, hI2, hI3, hI4, hI5⟩ hK
        have J1 := Aside0.mk hI1
        have J4 := Aside0.mk hI4
        have J5 := Aside0.mk hI5
        have s0 : W.cell? ⟨w2.heap.size, 0, none⟩ = some (.int .i64 (sumW m d (partsL m c)).1) := (blk_cell hI1 0).trans rfl
        have s1 : W.cell? ⟨w2.heap.size, 1, none⟩ = some (.int .i64 (sumW m d (partsL m c)).2) := (blk_cell hI1 1).trans rfl
        have r0 : W.cell? ⟨w.heap.size + 1 + 1, 0, none⟩ = some (.int .i64 0) := (blk_cell hI4 0).trans rfl
        have r1 : W.cell? ⟨w.heap.size + 1 + 1, 1, none⟩ = some (.int .i64 0) := (blk_cell hI4 1).trans rfl
        have rf0 := blk_frozen hI4 0
        have rf1 := blk_frozen hI4 1
        have HKD := Aside0.mk hK
        clear hI1 hI2 hI3 hI4 hI5 hK
        generalize sumW m d (partsL m c) = sm at *
        gi_wp2
        have hDne : w.heap.size + 1 + 1 ≠ D := by
          rintro rfl
          have h1 := J4.out
          rw [HKD.out] at h1; cases h1
        have BRf := blk_put (blk_put J4.out 0 (.int .i64 sm.1) rfl) 1 (.int .i64 sm.2) rfl
        have hKf := (Below.heap_setCell (W.setCell ⟨w.heap.size + 1 + 1, 0, none⟩ (.int .i64 sm.1)) ⟨w.heap.size + 1 + 1, 1, none⟩ (.int .i64 sm.2) D (Ne.symm hDne)).trans ((Below.heap_setCell W ⟨w.heap.size + 1 + 1, 0, none⟩ (.int .i64 sm.1) D (Ne.symm hDne)).trans HKD.out)
        have BRg := (World.putObj_heap_other (w := (W.setCell ⟨w.heap.size + 1 + 1, 0, none⟩ (.int .i64 sm.1)).setCell ⟨w.heap.size + 1 + 1, 1, none⟩ (.int .i64 sm.2)) (o := .deferred none) hDne).trans BRf
        have q0 := (blk_cell BRg 0).trans rfl
        have q1 := (blk_cell BRg 1).trans rfl
        refine ⟨by simp, .inl ⟨_, _, rfl, run_takeDeferred hKf, ?_⟩⟩
        refine ⟨.tuple #[.agg #[.int .i64 sm.1, .int .i64 sm.2], .int .i64 0], ?_, rfl, ?_⟩
        · simp [results, Tryd.f18, go_sem, q0, q1]
        · exact (below_set (below_set J5.out (by omega)) (by omega)).trans (belowK_b (w := w) (Nat.le_refl _) _ D _ _ (by omega) hKf rfl rfl)
      case stop =>
        rintro D c pre W _ _ h _
        exact h.elim
    · have HE : Aside0 (boundsL m l0 d known = ((0, 0), (cleanL m l0 known).2)) := ⟨by unfold boundsL; rw [if_pos hst, if_neg hcl]⟩
      have HCl : Aside0 (∀ W, Kd.C k43 W A0 l0.length l0 → Gl W → Calls Tryd.prog 13 #[.agg #[.int .i64 m.f0, .int .i64 m.f1, .int .i64 m.f2, .int .i64 m.f3, .int .i64 m.f4.f0, .int .i64 m.f4.f1], .slice A0 l0.length c0, .int .i64 known] W fun e w' => ∃ v0_ : Value, e = .returned (.tuple #[v0_, .int .i64 (cleanL m l0 known).2]) ∧ Kd.R k43 43 w' W.heap.size (fun _ => True) v0_ (cleanL m l0 known).1 ∧ Below W.heap.size W w') := ⟨fun W h1 h2 => meter_Clean_calls m A0 c0 l0 known W h1 HC0.out h2⟩
      have e1 : ((cleanL m l0 known).2 != 0) = true := by rw [bne_iff_ne]; exact hcl
      have e2 : ((cleanL m l0 known).2 == 0) = false := beq_eq_false_iff_ne.2 hcl
      clear hst hcl
      rw [HE.out]
      clear HE
      generalize (cleanL m l0 known).2 = er at *
      have HB := Aside0.mk (below_alloc (below_alloc (below_alloc (Below.refl w.heap.size w) (.cells #[.int .i64 m.f0, .int .i64 m.f1, .int .i64 m.f2, .int .i64 m.f3, .int .i64 m.f4.f0, .int .i64 m.f4.f1] 25)) (.cells #[.int .i64 d.f0, .int .i64 d.f1] 23)) (.cells #[.int .i64 0, .int .i64 0] 36))
      have BM := Aside0.mk (blk_alloc (blk_alloc (blk_new w (.cells #[.int .i64 m.f0, .int .i64 m.f1, .int .i64 m.f2, .int .i64 m.f3, .int .i64 m.f4.f0, .int .i64 m.f4.f1] 25)) (.cells #[.int .i64 d.f0, .int .i64 d.f1] 23)) (.cells #[.int .i64 0, .int .i64 0] 36))
      have BR := Aside0.mk (blk_p2 w (.cells #[.int .i64 m.f0, .int .i64 m.f1, .int .i64 m.f2, .int .i64 m.f3, .int .i64 m.f4.f0, .int .i64 m.f4.f1] 25) (.cells #[.int .i64 d.f0, .int .i64 d.f1] 23) (.cells #[.int .i64 0, .int .i64 0] 36))
      go_enter Tryd.func18, Tryd.ntmps18
      go_wp2_with (first
        | (go_at_call 36; (with_reducible refine (meter_stretch.calls d.f0 d.f1 true _ HSt.out).mono ?_); rintro e w1 ⟨rfl, hb⟩; replace HB := Aside0.mk (below_step HB.out hb); replace BM := Aside0.mk (blk_below BM.out hb); replace BR := Aside0.mk (blk_below BR.out hb); have z0 : w1.cell? ⟨w.heap.size, 0, none⟩ = some (.int .i64 m.f0) := (blk_cell BM.out 0).trans rfl; have z1 : w1.cell? ⟨w.heap.size, 1, none⟩ = some (.int .i64 m.f1) := (blk_cell BM.out 1).trans rfl; have z2 : w1.cell? ⟨w.heap.size, 2, none⟩ = some (.int .i64 m.f2) := (blk_cell BM.out 2).trans rfl; have z3 : w1.cell? ⟨w.heap.size, 3, none⟩ = some (.int .i64 m.f3) := (blk_cell BM.out 3).trans rfl; have z4 : w1.cell? ⟨w.heap.size, 4, none⟩ = some (.int .i64 m.f4.f0) := (blk_cell BM.out 4).trans rfl; have z5 : w1.cell? ⟨w.heap.size, 5, none⟩ = some (.int .i64 m.f4.f1) := (blk_cell BM.out 5).trans rfl; clear hb)
        | (go_at_call 13; (with_reducible refine (HCl.out _ (Kd.C_below HR0.out HB.out) (HGl.out.below HB.out)).mono ?_); rintro e w2 ⟨v, rfl, hR, hb⟩; replace HB := Aside0.mk (below_step HB.out hb); replace BR := Aside0.mk (blk_below BR.out hb); have z0 : w2.cell? ⟨w.heap.size + 1 + 1, 0, none⟩ = some (.int .i64 0) := (blk_cell BR.out 0).trans rfl; have z1 : w2.cell? ⟨w.heap.size + 1 + 1, 1, none⟩ = some (.int .i64 0) := (blk_cell BR.out 1).trans rfl; have zf0 := blk_frozen BR.out 0; have zf1 := blk_frozen BR.out 1; clear hR hb))
      have BRf := blk_put (blk_put BR.out 0 (.int .i64 0) rfl) 1 (.int .i64 0) rfl
      have q0 := (blk_cell BRf 0).trans rfl
      have q1 := (blk_cell BRf 1).trans rfl
      refine bodyPost_ret (v := .tuple #[.agg #[.int .i64 0, .int .i64 0], .int .i64 er]) ?_ rfl ⟨rfl, below_set (below_set HB.out (by omega)) (by omega)⟩
      simp [results, Tryd.f18, go_sem, q0, q1]
  · have HE : Aside0 (boundsL m l0 d known = ((0, 0), 1)) := ⟨by unfold boundsL; rw [if_neg hst]⟩
    rw [Bool.not_eq_true] at hst
    rw [hst] at HSt
    clear hst
    rw [HE.out]
    clear HE
    have HB := Aside0.mk (below_alloc (below_alloc (below_alloc (Below.refl w.heap.size w) (.cells #[.int .i64 m.f0, .int .i64 m.f1, .int .i64 m.f2, .int .i64 m.f3, .int .i64 m.f4.f0, .int .i64 m.f4.f1] 25)) (.cells #[.int .i64 d.f0, .int .i64 d.f1] 23)) (.cells #[.int .i64 0, .int .i64 0] 36))
    have BR := Aside0.mk (blk_p2 w (.cells #[.int .i64 m.f0, .int .i64 m.f1, .int .i64 m.f2, .int .i64 m.f3, .int .i64 m.f4.f0, .int .i64 m.f4.f1] 25) (.cells #[.int .i64 d.f0, .int .i64 d.f1] 23) (.cells #[.int .i64 0, .int .i64 0] 36))
    go_enter Tryd.func18, Tryd.ntmps18
    go_wp2_with (first
      | (go_at_call 36; (with_reducible refine (meter_stretch.calls d.f0 d.f1 false _ HSt.out).mono ?_); rintro e w2 ⟨rfl, hb⟩; replace HB := Aside0.mk (below_step HB.out hb); replace BR := Aside0.mk (blk_below BR.out hb); have z0 : w2.cell? ⟨w.heap.size + 1 + 1, 0, none⟩ = some (.int .i64 0) := (blk_cell BR.out 0).trans rfl; have z1 : w2.cell? ⟨w.heap.size + 1 + 1, 1, none⟩ = some (.int .i64 0) := (blk_cell BR.out 1).trans rfl; have zf0 := blk_frozen BR.out 0; have zf1 := blk_frozen BR.out 1; clear hb))
    have BRf := blk_put (blk_put BR.out 0 (.int .i64 0) rfl) 1 (.int .i64 0) rfl
    have q0 := (blk_cell BRf 0).trans rfl
    have q1 := (blk_cell BRf 1).trans rfl
    refine bodyPost_ret (v := .tuple #[.agg #[.int .i64 0, .int .i64 0], .int .i64 1]) ?_ rfl ⟨rfl, below_set (below_set HB.out (by omega)) (by omega)⟩
    simp [results, Tryd.f18, go_sem, q0, q1]
end Go.Proofs.YtknfkibnocfjiaaDoor.P
