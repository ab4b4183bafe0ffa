/- Range functions: what a body's block keeps; slices.Backward's iterator over a row of residues. -/
import Derived.Test.YtfkeelccnomjkaaDoorGIsResidue
import Derived.RangeFuncNested
import Derived.RangeFuncBound
import Derived.RangeFuncCalls
import Derived.RangeFuncLeaves
import Derived.RangeFuncBox
import Derived.Shelf.Abstract
import Derived.WalkKit
import Derived.OwnWalkIn
import Derived.TacticsInMore
import Derived.LoopNIn
import Derived.LoopIn
import Derived.Sort.LoopGhostIn
import Derived.Deep.RegionHeld3
namespace Go.Proofs.YtfkeelccnomjkaaDoor.P
open Go.RowKit Go.Shelf Go.Proofs.YtfkeelccnomjkaaDoorW.PrintWords Go.Proofs.YtfkeelccnomjkaaDoorW.PrintLast Go.Proofs.YtfkeelccnomjkaaDoorW.PrintMore Go.Proofs.YtfkeelccnomjkaaDoor.M
set_option linter.unusedVariables false
set_option linter.unusedSimpArgs false
attribute [local go_sem] Oper.semAt_some

theorem cell_on {w W : World} (hb : Below w.heap.size w W) {p : Addr} {v : Value} (h : w.cell? p = some v) : W.cell? p = some v := (hb.cell (World.block_lt_of_cell? w _ h)).trans h
theorem grown_of_below' {W W' : World} (h : Below W.heap.size W W') : W.grownBy W' none := ⟨h.os, h.tape, h.output, h.size, fun k hk _ => h.block k hk⟩
theorem abides_below {β : Type} {B : Nat} {J : β → World → Prop} (hJ : AbidesFrom B J) {s : β} {W W' : World} (h : J s W) (hb : Below W.heap.size W W') : J s W' :=
  hJ s W W' none h (grown_of_below' hb) (fun r e => by cases e)
/-- What a round that goes on keeps: all below g, and every block of cells but the one at g. -/
def KeepP (g : Nat) (W W' : World) : Prop := Below g W W' ∧ ∀ k o, k ≠ g → W.heap[k]? = some o → o.isCells = true → W'.heap[k]? = some o
theorem keepP_refl (g : Nat) (A : World) : KeepP g A A := ⟨Below.refl _ _, fun _ _ _ h _ => h⟩
theorem keepP_t {g : Nat} {A B C : World} (h : KeepP g A B) (k : KeepP g B C) : KeepP g A C := ⟨h.1.trans k.1, fun i o hi ho hc => k.2 i o hi (h.2 i o hi ho hc) hc⟩
theorem keepP_b {g : Nat} {w : World} (hn : g ≤ w.heap.size) (W : World) (l : Nat) (o o' : Obj) (hl : w.heap.size ≤ l) (h : W.heap[l]? = some o) (h1 : o.isCells = false) (h2 : o.isWalk = false) : KeepP g W (W.putObj l o') :=
  ⟨belowK_b (w := w) hn W l o o' hl h h1 h2, fun k ok hk hok hc => by
    have hne : k ≠ l := fun e => by subst e; rw [h] at hok; cases hok; rw [h1] at hc; cases hc
    rw [World.putObj_heap_other hne]; exact hok⟩
theorem keepP_below {g : Nat} {W W' : World} (hg : g ≤ W.heap.size) (h : Below W.heap.size W W') : KeepP g W W' :=
  ⟨h.mono hg, fun k o _ ho _ => (h.block k (Array.getElem?_eq_some_iff.1 ho).1).trans ho⟩
theorem keepP_blk {g : Nat} {W W' : World} (h : KeepP g W W') {k : Nat} {cs : Array Value} {t : TypeId} {fr : Nat × Nat} (hk : k ≠ g) (hb : W.heap[k]? = some (.cells cs t fr)) : W'.heap[k]? = some (.cells cs t fr) := h.2 k _ hk hb rfl
theorem blkOwn {β : Type} (B k : Nat) (t : TypeId) (f : β → Array Value) : OwnFrom B (fun s W => W.heap[k]? = some (.cells (f s) t (0, 0))) := fun s X Y row h hg hr =>
  (hg.block k (blk_lt h) (fun e => by obtain ⟨_, o, ho, hc⟩ := hr k e.symm; rw [show X.heap[k]? = _ from h] at ho; cases ho; cases hc)).trans h
theorem blk_p1 (w : World) (o : Obj) (o' : Obj) : ((w.alloc o).alloc o').heap[w.heap.size + 1]? = some o' := by
  have h := blk_new (w.alloc o) o'
  rwa [World.size_alloc] at h
theorem blk_p2 (w : World) (o o' o'' : Obj) : (((w.alloc o).alloc o').alloc o'').heap[w.heap.size + 1 + 1]? = some o'' := by
  have h := blk_new ((w.alloc o).alloc o') o''
  rwa [World.size_alloc, World.size_alloc] at h

/-- What Backward yields, the last element first: the k-th. -/
def backAt (l : List Int) (k : Nat) : Int × Int := (((l.length - 1 - k : Nat) : Int), rd l ((l.length - 1 - k : Nat) : Int))
def encB (l : List Int) (k : Nat) : Array Value := #[.int .i64 (backAt l k).1, .int .i64 (backAt l k).2]
theorem range_snoc (k : Nat) : List.range (k + 1) = List.range k ++ [k] := List.range_succ
theorem range_prefix {k n : Nat} (hk : k ≤ n) : List.range k <+: List.range n := by
  have h : List.range n = List.range k ++ (List.range (n - k)).map (k + ·) := by
    rw [← List.range_add]; congr 1; omega
  rw [h]
  exact List.prefix_append _ _
set_option maxHeartbeats 4000000 in
theorem backward_calls (A : Option Addr) (n c : Nat) (W : World) :
    Calls Tryd.prog 52 #[.slice A n c] W fun e w' => e = .returned (.func (.func 63) #[] #[.pointer (some ⟨W.heap.size, 0, none⟩)]) ∧ w' = W.alloc (.cells #[.slice A n c] 68) := by
  go_enter Tryd.func52, Tryd.ntmps52
  go_wp2
  go_ret
  exact ⟨rfl, rfl⟩
set_option maxHeartbeats 16000000 in
set_option maxRecDepth 100000 in
theorem back1_in (c : List Int) (A1 : Option Addr) (c1 : Nat) (w4 : World) (hr : Kd.C (Kd.int .i64) w4 A1 c.length c)
    (n l : Nat) (hn : 1 ≤ n) (J Jx : List Nat → World → Prop) (W : World) (hJ : AbidesFrom W.heap.size J)
    (hY : ∀ pre x W1, J pre W1 → pre.length < c.length → YieldAt Fence.wide (n - 1) Tryd.prog l (encB c x) W1 fun e W' =>
      (e = .returned (.bool true) ∧ J (pre ++ [x]) W' ∧ KeepP w4.heap.size W1 W') ∨ (e = .returned (.bool false) ∧ Jx (pre ++ [x]) W'))
    (hB : Below w4.heap.size w4 W) (hs : w4.heap.size + 2 ≤ W.heap.size)
    (b1 : W.heap[w4.heap.size + 1]? = some (.cells #[.slice A1 c.length c1] 68 (0, 0))) (h0 : J [] W) :
    CallsIn Fence.wide n Tryd.prog 63 #[.func (.yield l) #[] #[], .pointer (some ⟨w4.heap.size + 1, 0, none⟩)] W fun e W' => (∃ v, e = .returned v) ∧
      ((∃ ys, ys = List.range c.length ∧ J ys W') ∨ (∃ pre, pre <+: List.range c.length ∧ Jx pre W')) := by
  have hm := hr.2.1
  have HR := Aside0.mk hr
  have HJ := Aside0.mk @hJ
  have HY := Aside0.mk hY
  have HB := Aside0.mk hB
  have HB1 := Aside0.mk b1
  have HJ0 := Aside0.mk h0
  have y1 : W.cell? ⟨w4.heap.size + 1, 0, none⟩ = some (.slice A1 c.length c1) := (blk_cell b1 0).trans rfl
  clear hr hJ hY hB b1 h0
  refine callsIn_of_wp Tryd.func63 rfl trivial ?_ rfl
  simp only [Tryd.ntmps63, List.size_toArray, List.length_cons, List.length_nil, Nat.reduceAdd, Nat.reduceSub, Array.replicate_succ, Array.replicate_zero, List.push_toArray, List.append_toArray, List.nil_append, List.cons_append]
  have hw0 : IntKind.i64.wrap ((c.length : Int) - 1) = (c.length : Int) - 1 := Go.IntWalk.i64_in _ (by omega)
  gi_wp2
  clear y1
  gi_loopg [3] c.length (fun gk v3 w' => ∃ i : Nat, v3 = .int .i64 ((c.length : Int) - 1 - (i : Int)) ∧ Aside0 (i ≤ c.length ∧ gk = c.length - i) ∧ Aside0 (J (List.range i) w') ∧ Aside0 (KeepP w4.heap.size W w'))
  case atStart => exact ⟨0, by simp, ⟨Nat.zero_le _, rfl⟩, HJ0, ⟨keepP_refl _ _⟩⟩
  case round =>
    obtain ⟨i, rfl, HI, HJr, HK⟩ := hrel
    have hi := HI.out.1
    have BL : Aside0 (wr.heap[w4.heap.size + 1]? = some (.cells #[.slice A1 c.length c1] 68 (0, 0))) := ⟨keepP_blk HK.out (by omega) HB1.out⟩
    have HBr : Aside0 (Below w4.heap.size w4 wr) := ⟨HB.out.trans HK.out.1⟩
    by_cases hlt : i < c.length
    · have hp : (c.length : Int) - 1 - (i : Int) = ((c.length - 1 - i : Nat) : Int) := by omega
      have hps : ((c.length - 1 - i : Nat) : Int) - 1 = (c.length : Int) - 1 - ((i + 1 : Nat) : Int) := by omega
      obtain ⟨xad, e, x0⟩ := Kd.at_int HR.out ((c.length - 1 - i : Nat) : Int) (by omega) (by omega)
      cases e
      simp only [Int.toNat_natCast] at x0
      replace x0 := cell_on HBr.out x0
      rw [hp]
      have HPS := Aside0.mk hps
      have HX : Aside0 (backAt c i = (((c.length - 1 - i : Nat) : Int), rd c ((c.length - 1 - i : Nat) : Int))) := ⟨rfl⟩
      have hq : c.length - 1 - i < c.length := by omega
      clear hp hps
      generalize hj : c.length - 1 - i = j at *
      have HJj := Aside0.mk hj
      clear hj
      have b1 : (0 : Int) ≤ (j : Int) := by omega
      have b2 : (j : Int) < (c.length : Int) := by omega
      have b3 : (j : Int) ≤ 9223372036854775807 := by omega
      generalize hx : rd c (j : Int) = x at *
      clear hx
      obtain ⟨fn, tmps, assign, body, hy, hR⟩ := HY.out _ i _ HJr.out (by rw [List.length_range]; omega)
      simp only [encB, HX.out] at hy

      have HRy := Aside0.mk hR
      have y1 : wr.cell? ⟨w4.heap.size + 1, 0, none⟩ = some (.slice (some xad) c.length c1) := (blk_cell BL.out 0).trans rfl
      clear hR
      gi_wp2
      refine HRy.out.mono ?_
      rintro e W3 (⟨rfl, hJ3, hk3⟩ | ⟨rfl, hJx3⟩)
      · have HJ3 : Aside0 (J (List.range (i + 1)) W3) := ⟨by rw [range_snoc]; exact hJ3⟩
        have HK3 := Aside0.mk (keepP_t HK.out hk3)
        clear hJ3 hk3 HRy hy HJr HK BL HBr x0 y1
        gi_wp2
        gi_roundg (c.length - (i + 1))
        case measure => have := HI.out; omega
        case rel => exact ⟨i + 1, by rw [HPS.out], ⟨by omega, rfl⟩, HJ3, HK3⟩
      · have HJ3 : Aside0 (Jx (List.range (i + 1)) W3) := ⟨by rw [range_snoc]; exact hJx3⟩
        clear hJx3 HRy hy HJr HK BL HBr x0 y1
        gi_wp2
        refine bodyPost_ret (results_none rfl _ _ _) rfl ?_
        exact ⟨⟨_, rfl⟩, .inr ⟨_, range_prefix (by omega), HJ3.out⟩⟩
    · obtain rfl : i = c.length := by omega
      have hneg : (c.length : Int) - 1 - (c.length : Int) = -1 := by omega
      rw [hneg]
      clear hneg
      gi_wp2
      go_end0
      exact ⟨⟨_, rfl⟩, .inl ⟨_, rfl, HJr.out⟩⟩
end Go.Proofs.YtfkeelccnomjkaaDoor.P
