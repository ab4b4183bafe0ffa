/- A history under way: the block of a history, the rows beside it, and what steps leave of them. -/
import Derived.Test.YtknfkibnocfjiaaDoorGHead
import Derived.Test.YtknfkibnocfjiaaDoorMPure2
import Derived.Test.YtknfkibnocfjiaaDoorWShare
import Derived.Test.YtknfkibnocfjiaaDoorWMore
namespace Go.Proofs.YtknfkibnocfjiaaDoor.P
open Go.RowKit Go.Proofs.YtknfkibnocfjiaaDoorW.PrintWords Go.Proofs.YtknfkibnocfjiaaDoorW.PrintLast Go.Proofs.YtknfkibnocfjiaaDoorW.PrintMore Go.Proofs.YtknfkibnocfjiaaDoor.M
set_option linter.unusedVariables false

/-- What the meter has shown on day k. -/
def sAt (m : S25) (sh : List Int) (k : Nat) : Int := sh.getD k 0 % (m.f2 + 1)
def loS (m : S25) (s : Int) : Int := (1000 * s + 999 + m.f3) / (1000 + m.f3)
def hiS (m : S25) (s : Int) : Int := 1000 * s / (1000 - m.f3)
/-- What it has counted on day k. -/
def cAt (m : S25) (sh sl : List Int) (k : Nat) : Int := loS m (sAt m sh k) + if k < sl.length then sl.getD k 0 % (hiS m (sAt m sh k) - loS m (sAt m sh k) + 1) else 0
/-- Is there a reading on day k? -/
def rAt (m : S25) (rd : List Bool) (k : Nat) : Bool := rd.getD k false && decide (m.f4.f0 + k ≤ 36524)
/-- What it shows at the head of day k. -/
def atS (m : S25) (st : Int) (sh : List Int) : Nat → Int
  | 0 => st
  | k + 1 => atS m st sh k + sAt m sh k
def rdAt (m : S25) (st : Int) (sh : List Int) (k : Nat) : S43 := ⟨m.f0, m.f4.f0 + k, atS m st sh k % pow10 m.f1, 0⟩
/-- The readings ahead of day k. -/
def rowR (m : S25) (st : Int) (sh : List Int) (rd : List Bool) : Nat → List S43
  | 0 => []
  | k + 1 => rowR m st sh rd k ++ if rAt m rd k = true then [rdAt m st sh k] else []

def cM (m : S25) : Array Value := #[.int .i64 m.f0, .int .i64 m.f1, .int .i64 m.f2, .int .i64 m.f3, .int .i64 m.f4.f0, .int .i64 m.f4.f1]
def cZ : Array Value := #[.int .i64 0, .int .i64 0, .int .i64 0, .int .i64 0, .int .i64 0, .int .i64 0, .slice none 0 0, .slice none 0 0, .slice none 0 0, .slice none 0 0]
def cH (m : S25) (p6 p7 p8 p9 : Value) : Array Value := #[.int .i64 m.f0, .int .i64 m.f1, .int .i64 m.f2, .int .i64 m.f3, .int .i64 m.f4.f0, .int .i64 m.f4.f1, p6, p7, p8, p9]

structure MI (w0 : World) (m : S25) (H : Nat) (p6 p7 p8 vS vC vR vD : Value) (S C : List Int) (R : List S43) (D : List Bool) (W : World) : Prop where
  hb : Below w0.heap.size w0 W
  hH : w0.heap.size + 2 ≤ H
  bM : W.heap[w0.heap.size]? = some (.cells (cM m) 25 (0, 0))
  bZ : W.heap[w0.heap.size + 1]? = some (.cells cZ 53 (0, 0))
  bH : W.heap[H]? = some (.cells (cH m p6 p7 p8 vD) 53 (0, 0))
  rS : (Kd.int .i64).R 3 W w0.heap.size (fun _ => True) vS S
  rC : (Kd.int .i64).R 3 W w0.heap.size (fun _ => True) vC C
  rR : Kd.R k43 43 W w0.heap.size (fun _ => True) vR R
  rD : Kd.bool.R 4 W w0.heap.size (fun _ => True) vD D
  ne : ∀ k, vS.ownBlock = some k → vC.ownBlock ≠ some k

section
variable {w0 : World} {m : S25} {H : Nat} {p6 p7 p8 vS vC vR vD : Value} {S C : List Int} {R : List S43} {D : List Bool} {W w1 : World}
theorem MI.start (hb : Below w0.heap.size w0 W) (hH : w0.heap.size + 2 ≤ H) (bM : W.heap[w0.heap.size]? = some (.cells (cM m) 25 (0, 0))) (bZ : W.heap[w0.heap.size + 1]? = some (.cells cZ 53 (0, 0)))
    (bH : W.heap[H]? = some (.cells (cH m (.slice none 0 0) (.slice none 0 0) (.slice none 0 0) vD) 53 (0, 0))) (rD : Kd.bool.R 4 W w0.heap.size (fun _ => True) vD D) :
    MI w0 m H (.slice none 0 0) (.slice none 0 0) (.slice none 0 0) (.slice none 0 0) (.slice none 0 0) (.slice none 0 0) vD [] [] [] D W :=
  ⟨hb, hH, bM, bZ, bH, Kd.R_nil _ _ _ _ _, Kd.R_nil _ _ _ _ _, Kd.R_nil _ _ _ _ _, rD, fun k hk => by simp [Value.ownBlock] at hk⟩
theorem MI.start10 {u : Int} (hu : m.f4.f1 = u) (hb : Below w0.heap.size w0 W) (hH : w0.heap.size + 2 ≤ H) (bM : W.heap[w0.heap.size]? = some (.cells (cM m) 25 (0, 0))) (bZ : W.heap[w0.heap.size + 1]? = some (.cells cZ 53 (0, 0)))
    (b0 : W.heap[H]? = some (.cells cZ 53 (0, 0))) (r0 : Kd.bool.R 4 W w0.heap.size (fun _ => True) vD D) :
    MI w0 m H (.slice none 0 0) (.slice none 0 0) (.slice none 0 0) (.slice none 0 0) (.slice none 0 0) (.slice none 0 0) vD [] [] [] D (((((((((((W).setCell ⟨H, 0, none⟩ (.int .i64 m.f0)).setCell ⟨H, 1, none⟩ (.int .i64 m.f1)).setCell ⟨H, 2, none⟩ (.int .i64 m.f2)).setCell ⟨H, 3, none⟩ (.int .i64 m.f3)).setCell ⟨H, 4, none⟩ (.int .i64 m.f4.f0)).setCell ⟨H, 5, none⟩ (.int .i64 u)).setCell ⟨H, 6, none⟩ (.slice none 0 0)).setCell ⟨H, 7, none⟩ (.slice none 0 0)).setCell ⟨H, 8, none⟩ (.slice none 0 0)).setCell ⟨H, 9, none⟩ (vD)) := by
  have hl : w0.heap.size ≤ H := by omega
  have ha : w0.heap.size ≠ H := by omega
  have hz : w0.heap.size + 1 ≠ H := by omega
  have b1 := blk_put (cs' := #[.int .i64 m.f0, .int .i64 0, .int .i64 0, .int .i64 0, .int .i64 0, .int .i64 0, .slice none 0 0, .slice none 0 0, .slice none 0 0, .slice none 0 0]) b0 0 (.int .i64 m.f0) rfl
  have r1 := Kd.R_set r0 b0 (by decide) 0 (.int .i64 m.f0)
  have l1 := below_set (j := 0) (v := .int .i64 m.f0) hb hl
  have m1 := blk_far (p := ⟨H, 0, none⟩) bM ha (.int .i64 m.f0)
  have z1 := blk_far (p := ⟨H, 0, none⟩) bZ hz (.int .i64 m.f0)
  have b2 := blk_put (cs' := #[.int .i64 m.f0, .int .i64 m.f1, .int .i64 0, .int .i64 0, .int .i64 0, .int .i64 0, .slice none 0 0, .slice none 0 0, .slice none 0 0, .slice none 0 0]) b1 1 (.int .i64 m.f1) rfl
  have r2 := Kd.R_set r1 b1 (by decide) 1 (.int .i64 m.f1)
  have l2 := below_set (j := 1) (v := .int .i64 m.f1) l1 hl
  have m2 := blk_far (p := ⟨H, 1, none⟩) m1 ha (.int .i64 m.f1)
  have z2 := blk_far (p := ⟨H, 1, none⟩) z1 hz (.int .i64 m.f1)
  have b3 := blk_put (cs' := #[.int .i64 m.f0, .int .i64 m.f1, .int .i64 m.f2, .int .i64 0, .int .i64 0, .int .i64 0, .slice none 0 0, .slice none 0 0, .slice none 0 0, .slice none 0 0]) b2 2 (.int .i64 m.f2) rfl
  have r3 := Kd.R_set r2 b2 (by decide) 2 (.int .i64 m.f2)
  have l3 := below_set (j := 2) (v := .int .i64 m.f2) l2 hl
  have m3 := blk_far (p := ⟨H, 2, none⟩) m2 ha (.int .i64 m.f2)
  have z3 := blk_far (p := ⟨H, 2, none⟩) z2 hz (.int .i64 m.f2)
  have b4 := blk_put (cs' := #[.int .i64 m.f0, .int .i64 m.f1, .int .i64 m.f2, .int .i64 m.f3, .int .i64 0, .int .i64 0, .slice none 0 0, .slice none 0 0, .slice none 0 0, .slice none 0 0]) b3 3 (.int .i64 m.f3) rfl
  have r4 := Kd.R_set r3 b3 (by decide) 3 (.int .i64 m.f3)
  have l4 := below_set (j := 3) (v := .int .i64 m.f3) l3 hl
  have m4 := blk_far (p := ⟨H, 3, none⟩) m3 ha (.int .i64 m.f3)
  have z4 := blk_far (p := ⟨H, 3, none⟩) z3 hz (.int .i64 m.f3)
  have b5 := blk_put (cs' := #[.int .i64 m.f0, .int .i64 m.f1, .int .i64 m.f2, .int .i64 m.f3, .int .i64 m.f4.f0, .int .i64 0, .slice none 0 0, .slice none 0 0, .slice none 0 0, .slice none 0 0]) b4 4 (.int .i64 m.f4.f0) rfl
  have r5 := Kd.R_set r4 b4 (by decide) 4 (.int .i64 m.f4.f0)
  have l5 := below_set (j := 4) (v := .int .i64 m.f4.f0) l4 hl
  have m5 := blk_far (p := ⟨H, 4, none⟩) m4 ha (.int .i64 m.f4.f0)
  have z5 := blk_far (p := ⟨H, 4, none⟩) z4 hz (.int .i64 m.f4.f0)
  have b6 := blk_put (cs' := #[.int .i64 m.f0, .int .i64 m.f1, .int .i64 m.f2, .int .i64 m.f3, .int .i64 m.f4.f0, .int .i64 u, .slice none 0 0, .slice none 0 0, .slice none 0 0, .slice none 0 0]) b5 5 (.int .i64 u) rfl
  have r6 := Kd.R_set r5 b5 (by decide) 5 (.int .i64 u)
  have l6 := below_set (j := 5) (v := .int .i64 u) l5 hl
  have m6 := blk_far (p := ⟨H, 5, none⟩) m5 ha (.int .i64 u)
  have z6 := blk_far (p := ⟨H, 5, none⟩) z5 hz (.int .i64 u)
  have b7 := blk_put (cs' := #[.int .i64 m.f0, .int .i64 m.f1, .int .i64 m.f2, .int .i64 m.f3, .int .i64 m.f4.f0, .int .i64 u, .slice none 0 0, .slice none 0 0, .slice none 0 0, .slice none 0 0]) b6 6 (.slice none 0 0) rfl
  have r7 := Kd.R_set r6 b6 (by decide) 6 (.slice none 0 0)
  have l7 := below_set (j := 6) (v := .slice none 0 0) l6 hl
  have m7 := blk_far (p := ⟨H, 6, none⟩) m6 ha (.slice none 0 0)
  have z7 := blk_far (p := ⟨H, 6, none⟩) z6 hz (.slice none 0 0)
  have b8 := blk_put (cs' := #[.int .i64 m.f0, .int .i64 m.f1, .int .i64 m.f2, .int .i64 m.f3, .int .i64 m.f4.f0, .int .i64 u, .slice none 0 0, .slice none 0 0, .slice none 0 0, .slice none 0 0]) b7 7 (.slice none 0 0) rfl
  have r8 := Kd.R_set r7 b7 (by decide) 7 (.slice none 0 0)
  have l8 := below_set (j := 7) (v := .slice none 0 0) l7 hl
  have m8 := blk_far (p := ⟨H, 7, none⟩) m7 ha (.slice none 0 0)
  have z8 := blk_far (p := ⟨H, 7, none⟩) z7 hz (.slice none 0 0)
  have b9 := blk_put (cs' := #[.int .i64 m.f0, .int .i64 m.f1, .int .i64 m.f2, .int .i64 m.f3, .int .i64 m.f4.f0, .int .i64 u, .slice none 0 0, .slice none 0 0, .slice none 0 0, .slice none 0 0]) b8 8 (.slice none 0 0) rfl
  have r9 := Kd.R_set r8 b8 (by decide) 8 (.slice none 0 0)
  have l9 := below_set (j := 8) (v := .slice none 0 0) l8 hl
  have m9 := blk_far (p := ⟨H, 8, none⟩) m8 ha (.slice none 0 0)
  have z9 := blk_far (p := ⟨H, 8, none⟩) z8 hz (.slice none 0 0)
  have b10 := blk_put (cs' := #[.int .i64 m.f0, .int .i64 m.f1, .int .i64 m.f2, .int .i64 m.f3, .int .i64 m.f4.f0, .int .i64 u, .slice none 0 0, .slice none 0 0, .slice none 0 0, vD]) b9 9 (vD) rfl
  have r10 := Kd.R_set r9 b9 (by decide) 9 (vD)
  have l10 := below_set (j := 9) (v := vD) l9 hl
  have m10 := blk_far (p := ⟨H, 9, none⟩) m9 ha (vD)
  have z10 := blk_far (p := ⟨H, 9, none⟩) z9 hz (vD)
  exact MI.start l10 hH m10 z10 (by rw [show cH m (.slice none 0 0) (.slice none 0 0) (.slice none 0 0) vD = #[.int .i64 m.f0, .int .i64 m.f1, .int .i64 m.f2, .int .i64 m.f3, .int .i64 m.f4.f0, .int .i64 u, .slice none 0 0, .slice none 0 0, .slice none 0 0, vD] by unfold cH; rw [hu]]; exact b10) r10
theorem MI.size (h : MI w0 m H p6 p7 p8 vS vC vR vD S C R D W) : w0.heap.size ≤ W.heap.size := h.hb.size
theorem MI.below (h : MI w0 m H p6 p7 p8 vS vC vR vD S C R D W) (hb : Below W.heap.size W w1) : MI w0 m H p6 p7 p8 vS vC vR vD S C R D w1 :=
  ⟨below_then h.hb h.size hb, h.hH, blk_below h.bM hb, blk_below h.bZ hb, blk_below h.bH hb, Kd.R_below h.rS hb, Kd.R_below h.rC hb, Kd.R_below h.rR hb, Kd.R_below h.rD hb, h.ne⟩
theorem MI.alloc (h : MI w0 m H p6 p7 p8 vS vC vR vD S C R D W) (o : Obj) : MI w0 m H p6 p7 p8 vS vC vR vD S C R D (W.alloc o) := h.below (below_alloc (Below.refl _ _) o)
theorem MI.drew (h : MI w0 m H p6 p7 p8 vS vC vR vD S C R D W) : MI w0 m H p6 p7 p8 vS vC vR vD S C R D W.drew := h.below (below_drew (Below.refl _ _))
theorem MI.drewN (h : MI w0 m H p6 p7 p8 vS vC vR vD S C R D W) (n : Nat) : MI w0 m H p6 p7 p8 vS vC vR vD S C R D (W.drewN n) := h.below (pw_below_drewN (Below.refl _ _) n)
theorem R_other {vA vB : Value} {B : List Int} (hB : (Kd.int .i64).R 3 W w0.heap.size (fun _ => True) vB B) (hne : ∀ k, vA.ownBlock = some k → vB.ownBlock ≠ some k) (hg : W.grownBy w1 vA.ownBlock) : (Kd.int .i64).R 3 w1 w0.heap.size (fun _ => True) vB B := by
  have h1 : (Kd.int .i64).R 3 W w0.heap.size (fun k => some k ≠ vA.ownBlock) vB B := Kd.R_reok rfl hB (fun k hk e => hne k e.symm hk)
  exact Kd.R_mono (Kd.R_grown h1 hg (fun k hk => hk)) (fun _ _ => trivial)
theorem MI.appS (h : MI w0 m H p6 p7 p8 vS vC vR vD S C R D W) {v1 : Value} {S1 : List Int} (hr : (Kd.int .i64).R 3 w1 w0.heap.size (fun _ => True) v1 S1) (hb : Below w0.heap.size w0 w1) (hg : W.grownBy w1 vS.ownBlock)
    (hat : v1.ownBlock = vS.ownBlock ∨ ∃ b, v1.ownBlock = some b ∧ W.heap.size ≤ b) : MI w0 m H p6 p7 p8 v1 vC vR vD S1 C R D w1 :=
  ⟨hb, h.hH, blk_grown h.bM hg (Kd.R_ne h.rS h.bM (by decide)), blk_grown h.bZ hg (Kd.R_ne h.rS h.bZ (by decide)), blk_grown h.bH hg (Kd.R_ne h.rS h.bH (by decide)), hr, R_other h.rC h.ne hg,
    Kd.R_over h.rR h.rS (by decide) hg, Kd.R_over h.rD h.rS (by decide) hg, fun k hk e => by
      rcases hat with hat | ⟨b, hb1, hb2⟩
      · exact h.ne k (hat ▸ hk) e
      · have := Kd.R_lt h.rC k e
        rw [hb1] at hk; cases hk; omega⟩
theorem MI.appC (h : MI w0 m H p6 p7 p8 vS vC vR vD S C R D W) {v1 : Value} {C1 : List Int} (hr : (Kd.int .i64).R 3 w1 w0.heap.size (fun _ => True) v1 C1) (hb : Below w0.heap.size w0 w1) (hg : W.grownBy w1 vC.ownBlock)
    (hat : v1.ownBlock = vC.ownBlock ∨ ∃ b, v1.ownBlock = some b ∧ W.heap.size ≤ b) : MI w0 m H p6 p7 p8 vS v1 vR vD S C1 R D w1 :=
  ⟨hb, h.hH, blk_grown h.bM hg (Kd.R_ne h.rC h.bM (by decide)), blk_grown h.bZ hg (Kd.R_ne h.rC h.bZ (by decide)), blk_grown h.bH hg (Kd.R_ne h.rC h.bH (by decide)), R_other h.rS (fun k hk e => h.ne k e hk) hg, hr,
    Kd.R_over h.rR h.rC (by decide) hg, Kd.R_over h.rD h.rC (by decide) hg, fun k hk e => by
      rcases hat with hat | ⟨b, hb1, hb2⟩
      · exact h.ne k hk (hat ▸ e)
      · have := Kd.R_lt h.rS k hk
        rw [hb1] at e; cases e; omega⟩
theorem MI.appR (h : MI w0 m H p6 p7 p8 vS vC vR vD S C R D W) {v1 : Value} {R1 : List S43} (hr : Kd.R k43 43 w1 w0.heap.size (fun _ => True) v1 R1) (hb : Below w0.heap.size w0 w1) (hg : W.grownBy w1 vR.ownBlock) : MI w0 m H p6 p7 p8 vS vC v1 vD S C R1 D w1 :=
  ⟨hb, h.hH, blk_grown h.bM hg (Kd.R_ne h.rR h.bM (by decide)), blk_grown h.bZ hg (Kd.R_ne h.rR h.bZ (by decide)), blk_grown h.bH hg (Kd.R_ne h.rR h.bH (by decide)), Kd.R_over h.rS h.rR (by decide) hg, Kd.R_over h.rC h.rR (by decide) hg,
    hr, Kd.R_over h.rD h.rR (by decide) hg, h.ne⟩
theorem MI.setH (h : MI w0 m H p6 p7 p8 vS vC vR vD S C R D W) {q6 q7 q8 : Value} (j : Nat) (u : Value) (e : (cH m p6 p7 p8 vD).setIfInBounds j u = cH m q6 q7 q8 vD) : MI w0 m H q6 q7 q8 vS vC vR vD S C R D (W.setCell ⟨H, j, none⟩ u) :=
  have hH := h.hH
  ⟨below_set h.hb (by omega), h.hH, blk_far h.bM (by show _ ≠ H; omega) u, blk_far h.bZ (by show _ ≠ H; omega) u, blk_put h.bH j u e, Kd.R_set h.rS h.bH (by decide) j u, Kd.R_set h.rC h.bH (by decide) j u, Kd.R_set h.rR h.bH (by decide) j u, Kd.R_set h.rD h.bH (by decide) j u, h.ne⟩
theorem MI.set6 (h : MI w0 m H p6 p7 p8 vS vC vR vD S C R D W) (u : Value) : MI w0 m H u p7 p8 vS vC vR vD S C R D (W.setCell ⟨H, 6, none⟩ u) := h.setH 6 u rfl
theorem MI.set7 (h : MI w0 m H p6 p7 p8 vS vC vR vD S C R D W) (u : Value) : MI w0 m H p6 u p8 vS vC vR vD S C R D (W.setCell ⟨H, 7, none⟩ u) := h.setH 7 u rfl
theorem MI.set8 (h : MI w0 m H p6 p7 p8 vS vC vR vD S C R D W) (u : Value) : MI w0 m H p6 p7 u vS vC vR vD S C R D (W.setCell ⟨H, 8, none⟩ u) := h.setH 8 u rfl
theorem MI.setD {g c n : Nat} (h : MI w0 m H p6 p7 p8 vS vC vR (.slice (some ⟨g, 0, none⟩) n c) S C R D W) (i : Int) (x : Bool) : MI w0 m H p6 p7 p8 vS vC vR (.slice (some ⟨g, 0, none⟩) n c) S C R (D.set i.toNat x) (W.setCell ⟨g, i.toNat, none⟩ (.bool x)) := by
  obtain ⟨hr, hg⟩ := Kd.R_putg h.rD i x
  have hg' : W.grownBy (W.setCell ⟨g, i.toNat, none⟩ (.bool x)) (Value.slice (some ⟨g, 0, none⟩) n c).ownBlock := hg
  have hbase := Kd.R_base h.rD g rfl
  exact ⟨below_set h.hb hbase, h.hH, blk_grown h.bM hg (Kd.R_ne h.rD h.bM (by decide)), blk_grown h.bZ hg (Kd.R_ne h.rD h.bZ (by decide)), blk_grown h.bH hg (Kd.R_ne h.rD h.bH (by decide)),
    Kd.R_over h.rS h.rD (by decide) hg', Kd.R_over h.rC h.rD (by decide) hg', Kd.R_over h.rR h.rD (by decide) hg', hr, h.ne⟩
/-- What is left of it where the result is laid. -/
structure MO (w0 : World) (vS vC vR vD : Value) (S C : List Int) (R : List S43) (D : List Bool) (W : World) : Prop where
  hb : Below w0.heap.size w0 W
  bZ : ∃ cs, W.heap[w0.heap.size + 1]? = some (.cells cs 53 (0, 0))
  rS : (Kd.int .i64).R 3 W w0.heap.size (fun _ => True) vS S
  rC : (Kd.int .i64).R 3 W w0.heap.size (fun _ => True) vC C
  rR : Kd.R k43 43 W w0.heap.size (fun _ => True) vR R
  rD : Kd.bool.R 4 W w0.heap.size (fun _ => True) vD D
theorem MI.out (h : MI w0 m H p6 p7 p8 vS vC vR vD S C R D W) : MO w0 vS vC vR vD S C R D W := ⟨h.hb, ⟨_, h.bZ⟩, h.rS, h.rC, h.rR, h.rD⟩
theorem MO.set (h : MO w0 vS vC vR vD S C R D W) (j : Nat) (u : Value) : MO w0 vS vC vR vD S C R D (W.setCell ⟨w0.heap.size + 1, j, none⟩ u) := by
  obtain ⟨cs, hz⟩ := h.bZ
  exact ⟨below_set h.hb (by omega), ⟨_, blk_set hz j u⟩, Kd.R_set h.rS hz (by decide) j u, Kd.R_set h.rC hz (by decide) j u, Kd.R_set h.rR hz (by decide) j u, Kd.R_set h.rD hz (by decide) j u⟩
theorem MO.drew (h : MO w0 vS vC vR vD S C R D W) : MO w0 vS vC vR vD S C R D W.drew := ⟨below_drew h.hb, h.bZ, Kd.R_drew h.rS, Kd.R_drew h.rC, Kd.R_drew h.rR, Kd.R_drew h.rD⟩
end
end Go.Proofs.YtknfkibnocfjiaaDoor.P
