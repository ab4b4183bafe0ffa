/- The parts of the days of a meter: what the function parts returns, and what the iterator that it returns yields. -/
import Derived.Test.YtknfkibnocfjiaaDoorGClean
import Derived.RangeFuncNested
import Derived.RangeFuncBound
import Derived.RangeFuncCalls
import Derived.RangeFuncLeaves
import Derived.Shelf.Abstract
import Derived.WalkKit
import Derived.OwnWalkIn
import Derived.TacticsInMore
import Derived.LoopNIn
import Derived.LoopIn
import Derived.Sort.LoopGhostIn
import Derived.Deep.RegionHeld3
namespace Go.Proofs.YtknfkibnocfjiaaDoor.P
open Go.RowKit Go.Shelf Go.Proofs.YtknfkibnocfjiaaDoorW.PrintWords Go.Proofs.YtknfkibnocfjiaaDoorW.PrintLast Go.Proofs.YtknfkibnocfjiaaDoorW.PrintMore Go.Proofs.YtknfkibnocfjiaaDoor.M
set_option linter.unusedVariables false
set_option linter.unusedSimpArgs false
attribute [local go_sem] Oper.semAt_some

/-- A part of the days of a meter: from, until, by how much it grew, and whether that is known. -/
structure Part where
  a : Int
  b : Int
  s : Int
  k : Bool
def encP (x : Part) : Array Value := #[.agg #[.int .i64 x.a, .int .i64 x.b, .int .i64 x.s, .bool x.k]]
def fromF (m : S25) (c : List S43) : Nat → Int
  | 0 => m.f4.f0
  | j + 1 => (rd_T43 c (j : Int)).f1
def partAt (m : S25) (c : List S43) : Nat → Part
  | 0 => ⟨m.f4.f0, (rd_T43 c ((0 : Nat) : Int)).f1, 0, false⟩
  | j + 1 => ⟨(rd_T43 c (j : Int)).f1, (rd_T43 c ((j + 1 : Nat) : Int)).f1, shownF (pow10 m.f1) (rd_T43 c (j : Int)).f2 (rd_T43 c ((j + 1 : Nat) : Int)).f2, true⟩
def uptoP (m : S25) (c : List S43) (k : Nat) : List Part := (List.range k).map (partAt m c)
/-- The parts of the days of a meter, by its readings that count. -/
def partsL (m : S25) (c : List S43) : List Part := uptoP m c c.length ++ [⟨fromF m c c.length, m.f4.f1, 0, false⟩]
theorem uptoP_succ (m : S25) (c : List S43) (k : Nat) : uptoP m c (k + 1) = uptoP m c k ++ [partAt m c k] := by simp [uptoP, List.range_succ]
theorem uptoP_length (m : S25) (c : List S43) (k : Nat) : (uptoP m c k).length = k := by simp [uptoP]
theorem partsL_length (m : S25) (c : List S43) : (partsL m c).length = c.length + 1 := by simp [partsL, uptoP]

theorem grown_of_below {W W' : World} (h : Below W.heap.size W W') : W.grownBy W' none := ⟨h.os, h.tape, h.output, h.size, fun k hk _ => h.block k hk⟩
theorem abides_below {β : Type} {B : Nat} {J : β → World → Prop} (hJ : AbidesFrom B J) {s : β} {W W' : World} (h : J s W) (hb : Below W.heap.size W W') : J s W' :=
  hJ s W W' none h (grown_of_below hb) (fun r e => by cases e)
theorem uptoP_prefix (m : S25) (c : List S43) {k : Nat} (hk : k ≤ c.length) : uptoP m c k <+: partsL m c := by
  refine List.IsPrefix.trans ?_ (List.prefix_append _ _)
  unfold uptoP
  have h : List.range c.length = List.range k ++ (List.range (c.length - k)).map (k + ·) := by
    rw [← List.range_add]; congr 1; omega
  rw [h, List.map_append]
  exact List.prefix_append _ _
/-- What a round that goes on keeps: all below g, and every block of cells but the one at g. -/
def KeepP (g : Nat) (W W' : World) : Prop := Below g W W' ∧ ∀ k o, k ≠ g → W.heap[k]? = some o → o.isCells = true → W'.heap[k]? = some o
theorem keepP_refl (g : Nat) (A : World) : KeepP g A A := ⟨Below.refl _ _, fun _ _ _ h _ => h⟩
theorem keepP_t {g : Nat} {A B C : World} (h : KeepP g A B) (k : KeepP g B C) : KeepP g A C := ⟨h.1.trans k.1, fun i o hi ho hc => k.2 i o hi (h.2 i o hi ho hc) hc⟩
theorem keepP_b {g : Nat} {w : World} (hn : g ≤ w.heap.size) (W : World) (l : Nat) (o o' : Obj) (hl : w.heap.size ≤ l) (h : W.heap[l]? = some o) (h1 : o.isCells = false) (h2 : o.isWalk = false) : KeepP g W (W.putObj l o') :=
  ⟨belowK_b (w := w) hn W l o o' hl h h1 h2, fun k ok hk hok hc => by
    have hne : k ≠ l := fun e => by subst e; rw [h] at hok; cases hok; rw [h1] at hc; cases hc
    rw [World.putObj_heap_other hne]; exact hok⟩
theorem keepP_below {g : Nat} {W W' : World} (hg : g ≤ W.heap.size) (h : Below W.heap.size W W') : KeepP g W W' :=
  ⟨h.mono hg, fun k o _ ho _ => (h.block k (Array.getElem?_eq_some_iff.1 ho).1).trans ho⟩
theorem keepP_blk {g : Nat} {W W' : World} (h : KeepP g W W') {k : Nat} {cs : Array Value} {t : TypeId} {fr : Nat × Nat} (hk : k ≠ g) (hb : W.heap[k]? = some (.cells cs t fr)) : W'.heap[k]? = some (.cells cs t fr) := h.2 k _ hk hb rfl

theorem blk_p1 (w : World) (o : Obj) (o' : Obj) : ((w.alloc o).alloc o').heap[w.heap.size + 1]? = some o' := by
  have h := blk_new (w.alloc o) o'
  rwa [World.size_alloc] at h
set_option maxHeartbeats 4000000 in
set_option maxRecDepth 100000 in
theorem parts_calls (m : S25) (A0 : Option Addr) (len c0 : Nat) (w : World) :
    Calls Tryd.prog 37 #[.agg #[.int .i64 m.f0, .int .i64 m.f1, .int .i64 m.f2, .int .i64 m.f3, .int .i64 m.f4.f0, .int .i64 m.f4.f1], .slice A0 len c0] w fun e w' => e = .returned (.func (.func 46) #[] #[.pointer (some ⟨w.heap.size, 0, none⟩), .pointer (some ⟨w.heap.size + 1, 0, none⟩)]) ∧
      w' = (w.alloc (.cells #[.int .i64 m.f0, .int .i64 m.f1, .int .i64 m.f2, .int .i64 m.f3, .int .i64 m.f4.f0, .int .i64 m.f4.f1] 25)).alloc (.cells #[.slice A0 len c0] 27) := by
  have hu25 := Tryd.underlying25
  go_enter Tryd.func37, Tryd.ntmps37
  go_wp2
  go_ret
  exact ⟨rfl, rfl⟩

set_option maxHeartbeats 16000000 in
set_option maxRecDepth 100000 in
theorem parts1_in (m : S25) (c : List S43) (A1 : Option Addr) (c1 : Nat) (w4 : World) (hr : Kd.C k43 w4 A1 c.length c) (hgl : Gl w4) (hm : 0 ≤ m.f1 ∧ m.f1 ≤ 6) (hco : ∀ x ∈ c, readingOk x = true) (hcl : c.length ≤ 1000)
    (n l : Nat) (hn : 1 ≤ n) (J Jx : List Part → World → Prop) (W : World) (hJ : AbidesFrom W.heap.size J)
    (hY : ∀ pre x W1, J pre W1 → pre.length < c.length + 1 → YieldAt Fence.wide (n - 1) Tryd.prog l (encP x) W1 fun e W' =>
      (e = .returned (.bool true) ∧ J (pre ++ [x]) W' ∧ KeepP w4.heap.size W1 W') ∨ (e = .returned (.bool false) ∧ Jx (pre ++ [x]) W'))
    (hB : Below w4.heap.size w4 W) (hs : w4.heap.size + 3 ≤ W.heap.size)
    (b1 : W.heap[w4.heap.size + 1]? = some (.cells #[.int .i64 m.f0, .int .i64 m.f1, .int .i64 m.f2, .int .i64 m.f3, .int .i64 m.f4.f0, .int .i64 m.f4.f1] 25 (0, 0)))
    (b2 : W.heap[w4.heap.size + 2]? = some (.cells #[.slice A1 c.length c1] 27 (0, 0))) (h0 : J [] W) :
    CallsIn Fence.wide n Tryd.prog 46 #[.func (.yield l) #[] #[], .pointer (some ⟨w4.heap.size + 1, 0, none⟩), .pointer (some ⟨w4.heap.size + 2, 0, none⟩)] W fun e W' => (∃ v, e = .returned v) ∧
      ((∃ ys, ys = partsL m c ∧ J ys W') ∨ (∃ pre, pre <+: partsL m c ∧ Jx pre W')) := by
  have hu25 := Tryd.underlying25
  have hu43 := Tryd.underlying43
  have hu23 := Tryd.underlying23
  have HR := Aside0.mk hr
  have HGL := Aside0.mk hgl
  have HJ := Aside0.mk @hJ
  have HY := Aside0.mk hY
  have HCO := Aside0.mk hco
  have HB := Aside0.mk hB
  have HB1 := Aside0.mk b1
  have HB2 := Aside0.mk b2
  have HJ0 := Aside0.mk h0
  have y1 : W.cell? ⟨w4.heap.size + 1, 4, none⟩ = some (.int .i64 m.f4.f0) := (blk_cell b1 4).trans rfl
  have y2 : W.cell? ⟨w4.heap.size + 2, 0, none⟩ = some (.slice A1 c.length c1) := (blk_cell b2 0).trans rfl
  clear hr hgl hJ hY hco hB b1 b2 h0
  refine callsIn_of_wp Tryd.func46 rfl trivial ?_ rfl
  simp only [Tryd.ntmps46, List.size_toArray, List.length_cons, List.length_nil, Nat.reduceAdd, Nat.reduceSub, Array.replicate_succ, Array.replicate_zero, List.push_toArray, List.append_toArray, List.nil_append, List.cons_append]
  gi_wp2
  clear y1 y2
  gi_loopg [4, 13] c.length (fun gk v4 v13 w' => ∃ i : Nat, v13 = .int .i64 i ∧ v4 = .int .i64 (fromF m c i) ∧ Aside0 (i ≤ c.length ∧ gk = c.length - i) ∧ Aside0 (J (uptoP m c i) w') ∧ Aside0 (KeepP w4.heap.size W w'))
  case atStart => exact ⟨0, rfl, rfl, ⟨Nat.zero_le _, rfl⟩, HJ0, ⟨keepP_refl _ _⟩⟩
  case round =>
    obtain ⟨i, rfl, rfl, HI, HJr, HK⟩ := hrel
    have hi := HI.out.1
    have BM : Aside0 (wr.heap[w4.heap.size + 1]? = some (.cells #[.int .i64 m.f0, .int .i64 m.f1, .int .i64 m.f2, .int .i64 m.f3, .int .i64 m.f4.f0, .int .i64 m.f4.f1] 25 (0, 0))) := ⟨keepP_blk HK.out (by omega) HB1.out⟩
    have BL : Aside0 (wr.heap[w4.heap.size + 2]? = some (.cells #[.slice A1 c.length c1] 27 (0, 0))) := ⟨keepP_blk HK.out (by omega) HB2.out⟩
    have HBr : Aside0 (Below w4.heap.size w4 wr) := ⟨HB.out.trans HK.out.1⟩
    by_cases hlt : i < c.length
    · obtain ⟨xad, e, x0, x1, x2, x3⟩ := at_T43 HR.out ((i : Nat) : Int) (by omega) (by omega)
      cases e
      simp only [Int.toNat_natCast] at x0 x1 x2 x3
      replace x0 := cell_on HBr.out x0
      replace x1 := cell_on HBr.out x1
      replace x2 := cell_on HBr.out x2
      replace x3 := cell_on HBr.out x3
      have hlti : (i : Int) < (c.length : Int) := by omega
      have hw1 : IntKind.i64.wrap ((i : Int) + 1) = (i : Int) + 1 := Go.IntWalk.i64_in _ (by omega)
      by_cases hz : i = 0
      · have e0 : decide (0 < i) = false := decide_eq_false (by omega)
        have HP : Aside0 (partAt m c i = ⟨fromF m c i, (rd_T43 c (i : Int)).f1, 0, false⟩) := ⟨by subst hz; rfl⟩
        have HF : Aside0 (fromF m c (i + 1) = (rd_T43 c (i : Int)).f1) := ⟨rfl⟩
        clear hz
        generalize hx : rd_T43 c (i : Int) = x at *
        clear hx
        have HJa : Aside0 (J (uptoP m c i) ((wr.alloc (.cells #[.int .i64 x.f0, .int .i64 x.f1, .int .i64 x.f2, .int .i64 x.f3] 43)).alloc (.cells #[.int .i64 (fromF m c i), .int .i64 x.f1, .int .i64 0, .bool false] 77))) :=
          ⟨abides_below HJ.out HJr.out (below_alloc (below_alloc (Below.refl _ _) _) _)⟩
        obtain ⟨fn, tmps, assign, body, hy, hR⟩ := HY.out _ (partAt m c i) _ HJa.out (by rw [uptoP_length]; omega)
        rw [HP.out] at hy hR
        simp only [encP] at hy
        have HRy := Aside0.mk hR
        have hsz := HK.out.1.size
        have HBR := Aside0.mk (blk_alloc (blk_new wr (.cells #[.int .i64 x.f0, .int .i64 x.f1, .int .i64 x.f2, .int .i64 x.f3] 43)) (.cells #[.int .i64 (fromF m c i), .int .i64 x.f1, .int .i64 0, .bool false] 77))
        have HKa : Aside0 (KeepP w4.heap.size W ((wr.alloc (.cells #[.int .i64 x.f0, .int .i64 x.f1, .int .i64 x.f2, .int .i64 x.f3] 43)).alloc (.cells #[.int .i64 (fromF m c i), .int .i64 x.f1, .int .i64 0, .bool false] 77))) :=
          ⟨keepP_t HK.out (keepP_below (by omega) (below_alloc (below_alloc (Below.refl _ _) _) _))⟩
        clear hR
        gi_wp2
        refine HRy.out.mono ?_
        rintro e W3 (⟨rfl, hJ3, hk3⟩ | ⟨rfl, hJx3⟩)
        · have z1 : W3.cell? ⟨wr.heap.size, 1, none⟩ = some (.int .i64 x.f1) := (blk_cell (keepP_blk hk3 (by omega) HBR.out) 1).trans rfl
          have HJ3 : Aside0 (J (uptoP m c (i + 1)) W3) := ⟨by rw [uptoP_succ, HP.out]; exact hJ3⟩
          have HK3 := Aside0.mk (keepP_t HKa.out hk3)
          clear hJ3 hk3 HRy hy HJa HJr HK HKa HP HBR BM BL HBr x0 x1 x2 x3
          gi_wp2
          gi_roundg (c.length - (i + 1))
          case measure => have := HI.out; omega
          case rel => exact ⟨i + 1, by go_num, by rw [HF.out], ⟨by omega, rfl⟩, HJ3, HK3⟩
        · have HJ3 : Aside0 (Jx (uptoP m c (i + 1)) W3) := ⟨by rw [uptoP_succ, HP.out]; exact hJx3⟩
          clear hJx3 HRy hy HJa HJr HK HKa HBR BM BL HBr x0 x1 x2 x3
          gi_wp2
          refine bodyPost_ret (results_none rfl _ _ _) rfl ?_
          exact ⟨⟨_, rfl⟩, .inr ⟨_, uptoP_prefix m c (by omega), HJ3.out⟩⟩
      · have e0 : decide (0 < i) = true := decide_eq_true (by omega)
        have hi1 : (1 : Int) ≤ (i : Int) := by omega
        have hw2 : IntKind.i64.wrap ((i : Int) - 1) = (i : Int) - 1 := Go.IntWalk.i64_in _ (by omega)
        have hti : ((i : Int) - 1).toNat = i - 1 := by omega
        have hb0 : (0 : Int) ≤ (i : Int) - 1 := by omega
        have hb1 : (i : Int) - 1 < (c.length : Int) := by omega
        obtain ⟨yad, e, y0, y1, y2, y3⟩ := at_T43 HR.out ((i - 1 : Nat) : Int) (by omega) (by omega)
        cases e
        simp only [Int.toNat_natCast] at y0 y1 y2 y3
        replace y0 := cell_on HBr.out y0
        replace y1 := cell_on HBr.out y1
        replace y2 := cell_on HBr.out y2
        replace y3 := cell_on HBr.out y3
        have HP : Aside0 (partAt m c i = ⟨fromF m c i, (rd_T43 c (i : Int)).f1, shownF (pow10 m.f1) (rd_T43 c ((i - 1 : Nat) : Int)).f2 (rd_T43 c (i : Int)).f2, true⟩) := ⟨by
          obtain ⟨j, rfl⟩ : ∃ j, i = j + 1 := ⟨i - 1, by omega⟩
          rfl⟩
        have HF : Aside0 (fromF m c (i + 1) = (rd_T43 c (i : Int)).f1) := ⟨rfl⟩
        have hxo := readingOk_bounds (HCO.out _ (show rd_T43 c ((i : Nat) : Int) ∈ c by rw [rd43_get hlt]; exact List.getElem_mem _))
        have hyo := readingOk_bounds (HCO.out _ (show rd_T43 c ((i - 1 : Nat) : Int) ∈ c by rw [rd43_get (show i - 1 < c.length by omega)]; exact List.getElem_mem _))
        have HC30 := Aside0.mk (fun W hg => meter_shown_calls m (rd_T43 c ((i - 1 : Nat) : Int)) (rd_T43 c ((i : Nat) : Int)) W hg hm hyo.2.2.2 hxo.2.2.2)
        have HGr := Aside0.mk (HGL.out.below HBr.out)
        clear hz hxo hyo
        generalize hx : rd_T43 c (i : Int) = x at *
        generalize hy : rd_T43 c ((i - 1 : Nat) : Int) = y at *
        clear hx hy
        generalize shownF (pow10 m.f1) y.f2 x.f2 = sh at *
        have hsz := HK.out.1.size
        have HS := Aside0.mk (fun W (hb : Below wr.heap.size wr W) (hR : W.heap[wr.heap.size]? = some (.cells #[.int .i64 x.f0, .int .i64 x.f1, .int .i64 x.f2, .int .i64 x.f3] 43 (0, 0))) => show Below wr.heap.size wr W ∧ (W.cell? ⟨w4.heap.size + 1, 0, none⟩ = some (.int .i64 m.f0) ∧ W.cell? ⟨w4.heap.size + 1, 1, none⟩ = some (.int .i64 m.f1) ∧ W.cell? ⟨w4.heap.size + 1, 2, none⟩ = some (.int .i64 m.f2) ∧ W.cell? ⟨w4.heap.size + 1, 3, none⟩ = some (.int .i64 m.f3) ∧ W.cell? ⟨w4.heap.size + 1, 4, none⟩ = some (.int .i64 m.f4.f0) ∧ W.cell? ⟨w4.heap.size + 1, 5, none⟩ = some (.int .i64 m.f4.f1)) ∧
            W.cell? ⟨w4.heap.size + 2, 0, none⟩ = some (.slice (some xad) c.length c1) ∧
            (W.cell? (xad.add ((i - 1) * 4)) = some (.int .i64 y.f0) ∧ W.cell? ⟨(xad.add ((i - 1) * 4)).block, (xad.add ((i - 1) * 4)).off + 1, none⟩ = some (.int .i64 y.f1) ∧ W.cell? ⟨(xad.add ((i - 1) * 4)).block, (xad.add ((i - 1) * 4)).off + 2, none⟩ = some (.int .i64 y.f2) ∧ W.cell? ⟨(xad.add ((i - 1) * 4)).block, (xad.add ((i - 1) * 4)).off + 3, none⟩ = some (.int .i64 y.f3)) ∧
            (W.cell? ⟨wr.heap.size, 0, none⟩ = some (.int .i64 x.f0) ∧ W.cell? ⟨wr.heap.size, 1, none⟩ = some (.int .i64 x.f1) ∧ W.cell? ⟨wr.heap.size, 2, none⟩ = some (.int .i64 x.f2) ∧ W.cell? ⟨wr.heap.size, 3, none⟩ = some (.int .i64 x.f3)) from
          ⟨hb, ⟨(blk_cell (blk_below BM.out hb) 0).trans rfl, (blk_cell (blk_below BM.out hb) 1).trans rfl, (blk_cell (blk_below BM.out hb) 2).trans rfl, (blk_cell (blk_below BM.out hb) 3).trans rfl, (blk_cell (blk_below BM.out hb) 4).trans rfl, (blk_cell (blk_below BM.out hb) 5).trans rfl⟩, (blk_cell (blk_below BL.out hb) 0).trans rfl,
            ⟨cell_on hb y0, cell_on hb y1, cell_on hb y2, cell_on hb y3⟩, (blk_cell hR 0).trans rfl, (blk_cell hR 1).trans rfl, (blk_cell hR 2).trans rfl, (blk_cell hR 3).trans rfl⟩)
        clear y0 y1 y2 y3
        gi_wp2
        clear x0 x1 x2 x3
        refine wpIn_wide.2 ?_
        go_region_held3 (fun w' => Below wr.heap.size wr w' ∧ (w'.cell? ⟨w4.heap.size + 1, 0, none⟩ = some (.int .i64 m.f0) ∧ w'.cell? ⟨w4.heap.size + 1, 1, none⟩ = some (.int .i64 m.f1) ∧ w'.cell? ⟨w4.heap.size + 1, 2, none⟩ = some (.int .i64 m.f2) ∧ w'.cell? ⟨w4.heap.size + 1, 3, none⟩ = some (.int .i64 m.f3) ∧ w'.cell? ⟨w4.heap.size + 1, 4, none⟩ = some (.int .i64 m.f4.f0) ∧ w'.cell? ⟨w4.heap.size + 1, 5, none⟩ = some (.int .i64 m.f4.f1)) ∧
            w'.cell? ⟨w4.heap.size + 2, 0, none⟩ = some (.slice (some xad) c.length c1) ∧
            (w'.cell? (xad.add ((i - 1) * 4)) = some (.int .i64 y.f0) ∧ w'.cell? ⟨(xad.add ((i - 1) * 4)).block, (xad.add ((i - 1) * 4)).off + 1, none⟩ = some (.int .i64 y.f1) ∧ w'.cell? ⟨(xad.add ((i - 1) * 4)).block, (xad.add ((i - 1) * 4)).off + 2, none⟩ = some (.int .i64 y.f2) ∧ w'.cell? ⟨(xad.add ((i - 1) * 4)).block, (xad.add ((i - 1) * 4)).off + 3, none⟩ = some (.int .i64 y.f3)) ∧
            (w'.cell? ⟨wr.heap.size, 0, none⟩ = some (.int .i64 x.f0) ∧ w'.cell? ⟨wr.heap.size, 1, none⟩ = some (.int .i64 x.f1) ∧ w'.cell? ⟨wr.heap.size, 2, none⟩ = some (.int .i64 x.f2) ∧ w'.cell? ⟨wr.heap.size, 3, none⟩ = some (.int .i64 x.f3)))
          (refine HS.out _ (by repeat (first | exact hB5.out | exact Below.refl _ _ | apply below_drew | apply below_alloc | refine below_set ?_ (Nat.le_succ _))) (by repeat (first | exact hR5.out | exact blk_new _ _ | apply blk_drew | apply blk_alloc | refine blk_far ?_ (Nat.ne_of_lt (Nat.lt_succ_self _)) _)))
          (first
            | (go_at_call 30; go_split_ands; (with_reducible refine (HC30.out _ (HGr.out.below ?_)).mono ?_); (assumption); (rintro e w5 ⟨rfl, hb⟩; have hB5 : Aside0 (Below wr.heap.size wr w5) := ⟨below_step (by assumption) hb⟩; have hR5 : Aside0 (w5.heap[wr.heap.size]? = some (.cells #[.int .i64 x.f0, .int .i64 x.f1, .int .i64 x.f2, .int .i64 x.f3] 43 (0, 0))) := ⟨blk_below (by repeat (first | exact blk_new _ _ | apply blk_drew | apply blk_alloc | refine blk_far ?_ (Nat.ne_of_lt (Nat.lt_succ_self _)) _)) hb⟩; (first | (have hP5 : Aside0 (w5.heap[wr.heap.size + 1]? = some (.cells #[.int .i64 (fromF m c i), .int .i64 x.f1, .int .i64 0, .bool false] 77 (0, 0))) := ⟨blk_below (blk_drew (blk_p1 _ _ _)) hb⟩) | (have hP5 : Aside0 (w5.heap[wr.heap.size + 1]? = some (.cells #[.int .i64 (fromF m c i), .int .i64 x.f1, .int .i64 0, .bool true] 77 (0, 0))) := ⟨blk_below (blk_put (blk_drew (blk_p1 _ _ _)) 3 _ rfl) hb⟩)); have p2 : w5.cell? ⟨wr.heap.size + 1, 2, none⟩ = some (.int .i64 0) := (blk_cell hP5.out 2).trans rfl; have p3 := (blk_cell hP5.out 3).trans rfl; have pz2 := blk_frozen hP5.out 2; have pz3 := blk_frozen hP5.out 3; clear hb)))
        have HPf : Aside0 (((w5.setCell ⟨wr.heap.size + 1, 2, none⟩ (.int .i64 sh)).setCell ⟨wr.heap.size + 1, 3, none⟩ (.bool true)).heap[wr.heap.size + 1]? = some (.cells #[.int .i64 (fromF m c i), .int .i64 x.f1, .int .i64 sh, .bool true] 77 (0, 0))) := ⟨blk_put (blk_put hP5.out 2 _ rfl) 3 _ rfl⟩
        have HRf : Aside0 (((w5.setCell ⟨wr.heap.size + 1, 2, none⟩ (.int .i64 sh)).setCell ⟨wr.heap.size + 1, 3, none⟩ (.bool true)).heap[wr.heap.size]? = some (.cells #[.int .i64 x.f0, .int .i64 x.f1, .int .i64 x.f2, .int .i64 x.f3] 43 (0, 0))) := ⟨blk_far (blk_far hR5.out (Nat.ne_of_lt (Nat.lt_succ_self _)) _) (Nat.ne_of_lt (Nat.lt_succ_self _)) _⟩
        have HBf : Aside0 (Below wr.heap.size wr ((w5.setCell ⟨wr.heap.size + 1, 2, none⟩ (.int .i64 sh)).setCell ⟨wr.heap.size + 1, 3, none⟩ (.bool true))) := ⟨below_set (below_set hB5.out (Nat.le_succ _)) (Nat.le_succ _)⟩
        generalize ((w5.setCell ⟨wr.heap.size + 1, 2, none⟩ (.int .i64 sh)).setCell ⟨wr.heap.size + 1, 3, none⟩ (.bool true)) = wf at *
        clear p2 p3 pz2 pz3 hP5 hR5 hB5 HS HC30
        have HJa : Aside0 (J (uptoP m c i) wf) := ⟨abides_below HJ.out HJr.out HBf.out⟩
        obtain ⟨fn, tmps, assign, body, hy, hR⟩ := HY.out _ (partAt m c i) _ HJa.out (by rw [uptoP_length]; omega)
        rw [HP.out] at hy hR
        simp only [encP] at hy
        have HRy := Aside0.mk hR
        have HKa : Aside0 (KeepP w4.heap.size W wf) := ⟨keepP_t HK.out (keepP_below (by omega) HBf.out)⟩
        have f0 : wf.cell? ⟨wr.heap.size + 1, 0, none⟩ = some (.int .i64 (fromF m c i)) := (blk_cell HPf.out 0).trans rfl
        have f1 : wf.cell? ⟨wr.heap.size + 1, 1, none⟩ = some (.int .i64 x.f1) := (blk_cell HPf.out 1).trans rfl
        have f2 : wf.cell? ⟨wr.heap.size + 1, 2, none⟩ = some (.int .i64 sh) := (blk_cell HPf.out 2).trans rfl
        have f3 : wf.cell? ⟨wr.heap.size + 1, 3, none⟩ = some (.bool true) := (blk_cell HPf.out 3).trans rfl
        clear hR
        gi_wp2
        refine HRy.out.mono ?_
        rintro e W3 (⟨rfl, hJ3, hk3⟩ | ⟨rfl, hJx3⟩)
        · have z1 : W3.cell? ⟨wr.heap.size, 1, none⟩ = some (.int .i64 x.f1) := (blk_cell (keepP_blk hk3 (by omega) HRf.out) 1).trans rfl
          have HJ3 : Aside0 (J (uptoP m c (i + 1)) W3) := ⟨by rw [uptoP_succ, HP.out]; exact hJ3⟩
          have HK3 := Aside0.mk (keepP_t HKa.out hk3)
          clear hJ3 hk3 HRy hy HJa HJr HK HKa HP HRf HPf HBf BM BL HBr f0 f1 f2 f3
          gi_wp2
          gi_roundg (c.length - (i + 1))
          case measure => have := HI.out; omega
          case rel => exact ⟨i + 1, by go_num, by rw [HF.out], ⟨by omega, rfl⟩, HJ3, HK3⟩
        · have HJ3 : Aside0 (Jx (uptoP m c (i + 1)) W3) := ⟨by rw [uptoP_succ, HP.out]; exact hJx3⟩
          clear hJx3 HRy hy HJa HJr HK HKa HRf HPf HBf BM BL HBr f0 f1 f2 f3
          gi_wp2
          refine bodyPost_ret (results_none rfl _ _ _) rfl ?_
          exact ⟨⟨_, rfl⟩, .inr ⟨_, uptoP_prefix m c (by omega), HJ3.out⟩⟩
    · obtain rfl : i = c.length := by omega
      have y5 : wr.cell? ⟨w4.heap.size + 1, 5, none⟩ = some (.int .i64 m.f4.f1) := (blk_cell BM.out 5).trans rfl
      obtain ⟨fn, tmps, assign, body, hy, hR⟩ := HY.out _ ⟨fromF m c c.length, m.f4.f1, 0, false⟩ wr HJr.out (by rw [uptoP_length]; omega)
      simp only [encP] at hy
      have HRy := Aside0.mk hR
      clear hR
      gi_wp2
      refine HRy.out.mono ?_
      rintro e W3 (⟨rfl, hJ3, hk3⟩ | ⟨rfl, hJx3⟩)
      · have HJ3 := Aside0.mk hJ3
        clear hJ3 hk3
        gi_wp2
        go_end0
        exact ⟨⟨_, rfl⟩, .inl ⟨_, rfl, HJ3.out⟩⟩
      · have HJ3 := Aside0.mk hJx3
        clear hJx3
        gi_wp2
        go_end0
        exact ⟨⟨_, rfl⟩, .inr ⟨_, List.prefix_refl _, HJ3.out⟩⟩
end Go.Proofs.YtknfkibnocfjiaaDoor.P
