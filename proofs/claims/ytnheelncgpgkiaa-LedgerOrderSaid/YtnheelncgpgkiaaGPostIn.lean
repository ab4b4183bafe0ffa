/- The contract of ledger.post, by hand: a map is asked, a copy is appended to. -/
import Derived.Test.YtnheelncgpgkiaaGIndex
import Derived.Test.YtnheelncgpgkiaaGClone
import Derived.Deep.RegionHeld3
namespace Go.Proofs.Ytnheelncgpgkiaa.P
open Go.RowKit Go.Proofs.YtnheelncgpgkiaaW.PrintWords Go.Proofs.YtnheelncgpgkiaaW.PrintLast Go.Proofs.YtnheelncgpgkiaaW.PrintMore Go.Proofs.Ytnheelncgpgkiaa.M
open Go.Maps (keyOf_int_mk)
set_option linter.unusedVariables false
set_option linter.unusedSimpArgs false

def RowPost (w : World) (r1 : List S24) (r2 : Int) (e : Ending) (w' : World) : Prop :=
  ∃ v0_ : Value, e = .returned (.tuple #[v0_, .int .i64 r2]) ∧ Kd.R k24 24 w' w.heap.size (fun _ => True) v0_ r1 ∧ Below w.heap.size w w'

theorem R_ne {α : Type} {d : Kd α} {e base : Nat} {w : World} {ok : Nat → Prop} {v : Value} {xs : List α} (h : d.R e w base ok v xs) {g : Nat} (hg : g < base) : some g ≠ v.ownBlock := fun he => by
  obtain ⟨_, inner, ho, _⟩ := h
  have := own_base ho g he.symm
  omega
/-- One entry in a block of its own, as a row that is read. -/
theorem k24_one {W : World} {b : Nat} {fr : Nat × Nat} (x : S24) (h : W.heap[b]? = some (.cells #[.int .i64 x.f0, .int .i64 x.f1, .int .i64 x.f2, .int .i64 x.f3, .string x.f4, .string x.f5] 24 fr)) : ReadsRow (k24.K W) k24.sz W (some ⟨b, 0, none⟩) 1 [x] := by
  refine ⟨rfl, by decide, fun _ => ⟨_, rfl, fun j p hj => ?_⟩⟩
  have hj0 : j = 0 := by
    have := (List.getElem?_eq_some_iff.1 hj).1
    simp at this; exact this
  subst hj0
  obtain rfl : x = p := by simpa using hj
  refine ⟨_, rfl, k24_mk W x, fun i u hu => ?_⟩
  rw [Nat.zero_mul, Nat.zero_add, add_plain]
  simp only [World.cell?, h]
  simpa using hu

set_option maxHeartbeats 8000000 in
set_option maxRecDepth 100000 in
theorem ledger_post_calls (A0 : Option Addr) (c0 : Nat) (l0 : List S24) (b n : Nat) (x : S24) (w : World) (hr0 : Kd.C k24 w A0 l0.length l0) (hc0 : l0.length ≤ c0) (hl0 : l0.length ≤ 4000)
    (hM : MapAt w Try.prog 3 b (intF encE (idF l0)) n) (hx : (Lit.int .i64 x.f0).wf = true) :
    Calls Try.prog 29 #[.slice A0 l0.length c0, .map (some b), encE x] w (RowPost w (postF l0 x).1 (postF l0 x).2) := by
  have hu24 := Try.underlying24
  have HR0 := Aside0.mk hr0
  have HC0 := Aside0.mk hc0
  have HM := Aside0.mk hM
  have HK := Aside0.mk (keyOf_int_mk Try.underlying3 hx)
  clear hr0 hc0 hM hx
  have HB := Aside0.mk (Below.refl w.heap.size w)
  by_cases h1 : l0.length = 4000
  · have hp : postF l0 x = ([], 2) := by unfold postF; rw [if_pos h1]
    rw [hp]
    have e1 : ((l0.length : Int) == 4000) = true := beq_iff_eq.2 (by omega)
    clear hp h1
    unfold encE
    go_enter Try.func29, Try.ntmps29
    go_wp2
    go_ret2
    exact ⟨_, rfl, Kd.R_nil _ _ _ _ _, below_alloc HB.out _⟩
  · have e1 : ((l0.length : Int) == 4000) = false := beq_eq_false_iff_ne.2 (by omega)
    by_cases h2 : (idF l0 x.f0).isSome = true
    · have hp : postF l0 x = ([], 5) := by unfold postF; rw [if_neg h1, if_pos h2]
      rw [hp]
      obtain ⟨y, hy⟩ := Option.isSome_iff_exists.1 h2
      have HY := Aside0.mk hy
      clear hp h1 h2 hy
      unfold encE
      go_enter Try.func29, Try.ntmps29
      go_wp2_with ((at_lookup; refine wpList_look rfl (.tmp 14) (.tmp 16) 48 true rfl 3 24 keyInt Try.underlying48 (encE z24) zeroE24 b n (intF encE (idF l0)) rfl (HM.out.alloc _) (.int .i64 x.f0) (.int .i64 x.f0) rfl HK.out (some (encE y)) (by rw [intF_at, HY.out]; rfl) ?_; simp only [looked_true, Option.getD_some, Option.isSome_some, encE]))
      go_ret2
      exact ⟨_, rfl, Kd.R_nil _ _ _ _ _, below_alloc (below_alloc HB.out _) _⟩
    · have hp : postF l0 x = (l0 ++ [x], 0) := by unfold postF; rw [if_neg h1, if_neg h2]
      rw [hp]
      have hy : idF l0 x.f0 = none := by simpa using h2
      have HY := Aside0.mk hy
      clear hp h1 h2 hy
      unfold encE
      go_enter Try.func29, Try.ntmps29
      go_wp2_with ((at_lookup; refine wpList_look rfl (.tmp 14) (.tmp 16) 48 true rfl 3 24 keyInt Try.underlying48 (encE z24) zeroE24 b n (intF encE (idF l0)) rfl (HM.out.alloc _) (.int .i64 x.f0) (.int .i64 x.f0) rfl HK.out none (by rw [intF_at, HY.out]; rfl) ?_; simp only [looked_true, Option.getD_none, Option.isSome_none, encE, z24]))
      have hg0 : ((w.alloc (.cells #[.int .i64 x.f0, .int .i64 x.f1, .int .i64 x.f2, .int .i64 x.f3, .string x.f4, .string x.f5] 24)).alloc (.cells #[.int .i64 0, .int .i64 0, .int .i64 0, .int .i64 0, .string ⟨#[]⟩, .string ⟨#[]⟩] 24)).heap[w.heap.size]? = some (.cells #[.int .i64 x.f0, .int .i64 x.f1, .int .i64 x.f2, .int .i64 x.f3, .string x.f4, .string x.f5] 24 (0, 0)) :=
        blk_alloc (blk_new w _) _
      have hBx : Below w.heap.size w ((w.alloc (.cells #[.int .i64 x.f0, .int .i64 x.f1, .int .i64 x.f2, .int .i64 x.f3, .string x.f4, .string x.f5] 24)).alloc (.cells #[.int .i64 0, .int .i64 0, .int .i64 0, .int .i64 0, .string ⟨#[]⟩, .string ⟨#[]⟩] 24)) := below_alloc (below_alloc HB.out _) _
      generalize ((w.alloc (.cells #[.int .i64 x.f0, .int .i64 x.f1, .int .i64 x.f2, .int .i64 x.f3, .string x.f4, .string x.f5] 24)).alloc (.cells #[.int .i64 0, .int .i64 0, .int .i64 0, .int .i64 0, .string ⟨#[]⟩, .string ⟨#[]⟩] 24)) = wx at *
      have hlt : w.heap.size < wx.heap.size := (Array.getElem?_eq_some_iff.1 hg0).1
      have c0' : wx.cell? ⟨w.heap.size, 0, none⟩ = some (.int .i64 x.f0) := (blk_cell hg0 0).trans rfl
      have c1' : wx.cell? ⟨w.heap.size, 1, none⟩ = some (.int .i64 x.f1) := (blk_cell hg0 1).trans rfl
      have c2' : wx.cell? ⟨w.heap.size, 2, none⟩ = some (.int .i64 x.f2) := (blk_cell hg0 2).trans rfl
      have c3' : wx.cell? ⟨w.heap.size, 3, none⟩ = some (.int .i64 x.f3) := (blk_cell hg0 3).trans rfl
      have c4' : wx.cell? ⟨w.heap.size, 4, none⟩ = some (.string x.f4) := (blk_cell hg0 4).trans rfl
      have c5' : wx.cell? ⟨w.heap.size, 5, none⟩ = some (.string x.f5) := (blk_cell hg0 5).trans rfl
      have HBx := Aside0.mk hBx
      have HRx := Aside0.mk (Kd.C_below HR0.out hBx)
      have hszx := HBx.out.size
      clear hg0 hBx HY HK HM HB
      generalize hgg : w.heap.size = g at *
      have HG := Aside0.mk hgg
      clear hgg
      go_region_held3 (fun w' => w'.cell? ⟨g, 0, none⟩ = some (.int .i64 x.f0) ∧ w'.cell? ⟨g, 1, none⟩ = some (.int .i64 x.f1) ∧ w'.cell? ⟨g, 2, none⟩ = some (.int .i64 x.f2) ∧ w'.cell? ⟨g, 3, none⟩ = some (.int .i64 x.f3) ∧ w'.cell? ⟨g, 4, none⟩ = some (.string x.f4) ∧ w'.cell? ⟨g, 5, none⟩ = some (.string x.f5)) (first | go_keep | (go_split_ands; refine ⟨?_, ?_, ?_, ?_, ?_, ?_⟩ <;> (rw [hbc _ _ (by first | exact hlt | (simp; omega))]; first | assumption | simp [World.cell?_alloc_some, *])) | (go_split_ands; refine ⟨?_, ?_, ?_, ?_, ?_, ?_⟩ <;> (rw [hg2.cell_far ⟨g, _, none⟩ (by have h_ := hb1.size; (try simp at h_ ⊢); omega) hne]; first | assumption | simp [World.cell?_alloc_some, *])))
        ((first
          | (refine Kd.R_append_rows_step k24 (Rr := k24.K _) (w0 := w) g (by rfl) (.tmp 22) (.tmp 24) 22 24 (.agg #[(.int .i64 0), (.int .i64 0), (.int .i64 0), (.int .i64 0), (.string ⟨#[]⟩), (.string ⟨#[]⟩)]) 64 (by rfl) Try.underlying22 info24 rfl (by decide) (by omega) v1 l0 [x] _ 1 1 (fun _ => True) (fun _ => False) (by rfl) (by rfl) ?aO ?aR (fun y cs h => k24_KM _ _ y cs h) (fun _ h => h.elim) (fun _ _ => trivial) ?aB ?aS (by omega) ?_
             (case aO => first | exact Kd.R_lower (Kd.R_alloc hR1 _) (by simp; omega) | exact Kd.R_lower hR1 (by simp; omega))
             (case aR => first | exact k24_one x (blk_new _ _) | exact k24_one x (blk_below (by exact blk_drew (blk_new _ _)) hb1))
             (case aB => first | exact (below_then (below_drew HBx.out) hszx hb1).alloc (Nat.le_trans hszx hb1.size) _ | exact below_then (below_drew (HBx.out.alloc hszx _)) (by simp; omega) hb1)
             (case aS => (have h_ := hb1.size; (try simp at h_ ⊢); omega))
             intro v2 w2 hR2 hb2 hg2 hat2)
          | (go_at_call 43; (with_reducible refine (slices_Clone_calls A0 c0 l0 _ ?s1 HC0.out (by omega)).mono ?_); (case s1 => first | exact Kd.C_drew HRx.out | exact Kd.C_drew (Kd.C_alloc HRx.out _)); rintro e w1 ⟨v1, rfl, hR1, hb1⟩; have hne := R_ne hR1 (show g < _ by first | exact hlt | (simp; omega)); obtain ⟨hbc, hbf⟩ := bcell hb1)))
      all_goals go_wp2
      all_goals go_ret2
      all_goals
        have hg1 := HG.out
        subst hg1
        exact ⟨_, rfl, hR2, hb2⟩
end Go.Proofs.Ytnheelncgpgkiaa.P
