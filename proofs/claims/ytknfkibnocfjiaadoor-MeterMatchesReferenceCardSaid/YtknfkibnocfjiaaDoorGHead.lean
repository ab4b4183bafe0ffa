/- The contract of the law's head: the examples come out as they should. -/
import Derived.Test.YtknfkibnocfjiaaDoorGSeveral
import Derived.Test.YtknfkibnocfjiaaDoorPR1
namespace Go.Proofs.YtknfkibnocfjiaaDoor.P
open Go.RowKit Go.Proofs.YtknfkibnocfjiaaDoorW.PrintWords Go.Proofs.YtknfkibnocfjiaaDoorW.PrintLast Go.Proofs.YtknfkibnocfjiaaDoorW.PrintMore Go.Proofs.YtknfkibnocfjiaaDoor.M
set_option linter.unusedVariables false
set_option linter.unusedSimpArgs false

theorem flat_at {α β : Type} (f : α → List β) (n : Nat) (hf : ∀ x, (f x).length = n) : ∀ (xs : List α) (j : Nat) (x : α), xs[j]? = some x → ((xs.flatMap f).drop (j * n)).take n = f x := by
  intro xs
  induction xs with
  | nil => intro j x h; simp at h
  | cons y ys ih =>
    intro j x h
    cases j with
    | zero =>
      simp at h
      subst h
      rw [Nat.zero_mul, List.drop_zero, List.flatMap_cons, List.take_append_of_le_length (by rw [hf]; exact Nat.le_refl _), ← hf y, List.take_length]
    | succ j =>
      rw [List.getElem?_cons_succ] at h
      rw [List.flatMap_cons, Nat.succ_mul, Nat.add_comm, ← List.drop_drop, List.drop_append_of_le_length (by rw [hf]; exact Nat.le_refl _), ← hf y, List.drop_length, List.nil_append, hf y]
      exact ih j x h
theorem flat_len {α β : Type} (f : α → List β) (n : Nat) (hf : ∀ x, (f x).length = n) (xs : List α) : (xs.flatMap f).length = xs.length * n := by
  induction xs with
  | nil => simp
  | cons y ys ih => rw [List.flatMap_cons, List.length_append, hf, ih, List.length_cons, Nat.succ_mul, Nat.add_comm]
def cells43 (x : S43) : List Value := [.int .i64 x.f0, .int .i64 x.f1, .int .i64 x.f2, .int .i64 x.f3]
def cells25 (x : S25) : List Value := [.int .i64 x.f0, .int .i64 x.f1, .int .i64 x.f2, .int .i64 x.f3, .int .i64 x.f4.f0, .int .i64 x.f4.f1]
/-- A block that holds a list of readings. -/
theorem R_blk43 {W : World} {base b : Nat} (xs : List S43) (h : W.heap[b]? = some (.cells (xs.flatMap cells43).toArray 43 (0, 0))) (hl : xs.length ≤ maxLen) (hb : base ≤ b) : Kd.R k43 43 W base (fun _ => True) (.slice (some ⟨b, 0, none⟩) xs.length xs.length) xs := by
  have e := flat_len cells43 4 (fun _ => rfl) xs
  refine ⟨fun _ _ => trivial, xs.flatMap cells43, ⟨e, .inr ⟨b, xs.length, _, rfl, hb, h, Nat.le_refl _, hl, by rw [List.size_toArray]; exact e, ?_⟩⟩, ?_⟩
  · show (xs.flatMap cells43).take (xs.length * 4) = _
    rw [← e, List.take_length]
  · refine ⟨e, fun j p hj => ?_⟩
    rw [show k43.sz = 4 from rfl, flat_at cells43 4 (fun _ => rfl) xs j p hj]
    exact k43_mkM W base _ p
theorem R_blk25 {W : World} {base b : Nat} (xs : List S25) (h : W.heap[b]? = some (.cells (xs.flatMap cells25).toArray 25 (0, 0))) (hl : xs.length ≤ maxLen) (hb : base ≤ b) : Kd.R k25 25 W base (fun _ => True) (.slice (some ⟨b, 0, none⟩) xs.length xs.length) xs := by
  have e := flat_len cells25 6 (fun _ => rfl) xs
  refine ⟨fun _ _ => trivial, xs.flatMap cells25, ⟨e, .inr ⟨b, xs.length, _, rfl, hb, h, Nat.le_refl _, hl, by rw [List.size_toArray]; exact e, ?_⟩⟩, ?_⟩
  · show (xs.flatMap cells25).take (xs.length * 6) = _
    rw [← e, List.take_length]
  · refine ⟨e, fun j p hj => ?_⟩
    rw [show k25.sz = 6 from rfl, flat_at cells25 6 (fun _ => rfl) xs j p hj]
    exact k25_mkM W base _ p
theorem R_C43 {W : World} {base : Nat} {ok : Nat → Prop} {A : Option Addr} {n c : Nat} {xs : List S43} (h : Kd.R k43 43 W base ok (.slice A n c) xs) : Kd.C k43 W A n xs := by
  obtain ⟨A', c', e, _, hc⟩ := Kd.R_reads h
  cases e; exact hc
theorem R_C25 {W : World} {base : Nat} {ok : Nat → Prop} {A : Option Addr} {n c : Nat} {xs : List S25} (h : Kd.R k25 25 W base ok (.slice A n c) xs) : Kd.C k25 W A n xs := by
  obtain ⟨A', c', e, _, hc⟩ := Kd.R_reads h
  cases e; exact hc

theorem hF1 : cleanL ⟨1, 3, 20, 0, ⟨0, 100⟩⟩ [⟨1, 14, 30, 0⟩, ⟨1, 10, 990, 0⟩, ⟨2, 12, 500, 0⟩] 0 = ([⟨1, 10, 990, 0⟩, ⟨1, 14, 30, 0⟩], 0) := by kernel_rfl
theorem hF2 : boundsL ⟨1, 3, 20, 0, ⟨0, 100⟩⟩ [⟨1, 14, 30, 0⟩, ⟨1, 10, 990, 0⟩, ⟨2, 12, 500, 0⟩] ⟨10, 12⟩ 0 = ((0, 40), 0) := by kernel_rfl
theorem hF3 : boundsL ⟨1, 3, 20, 0, ⟨0, 100⟩⟩ [⟨1, 14, 30, 0⟩, ⟨1, 10, 990, 0⟩, ⟨2, 12, 500, 0⟩] ⟨10, 13⟩ 0 = ((20, 40), 0) := by kernel_rfl
theorem hF4 : boundsL ⟨1, 3, 20, 0, ⟨0, 100⟩⟩ [⟨1, 14, 30, 0⟩, ⟨1, 10, 990, 0⟩, ⟨2, 12, 500, 0⟩] ⟨8, 14⟩ 0 = ((40, 80), 0) := by kernel_rfl
theorem hF5 : severalL [⟨1, 3, 20, 100, ⟨0, 100⟩⟩] [⟨1, 14, 30, 0⟩, ⟨1, 10, 990, 0⟩, ⟨2, 12, 500, 0⟩] ⟨10, 14⟩ 0 = ((37, 44), 0) := by kernel_rfl
theorem hF6 : boundsL ⟨1, 3, 20, 100, ⟨0, 100⟩⟩ [⟨1, 14, 30, 0⟩, ⟨1, 10, 990, 0⟩, ⟨2, 12, 500, 0⟩, ⟨1, 15, 51, 0⟩] ⟨8, 14⟩ 0 = ((0, 0), 30) := by kernel_rfl
theorem hF7 : validL [⟨1, 3, 20, 100, ⟨0, 100⟩⟩] = true := by kernel_rfl
theorem hF8 : cohousingref27_Same.f 5 [⟨1, 10, 990, 0⟩, ⟨1, 14, 30, 0⟩] [⟨1, 10, 990, 0⟩, ⟨1, 14, 30, 0⟩] = some true := by kernel_rfl

/-- What lies behind the examples: the meter with its drift, the bounds that came, the readings that count. -/
def PK (w : World) (x1 x2 x3 x4 : Nat) (v : Value) (W : World) : Prop :=
  Below w.heap.size w W ∧ W.heap[w.heap.size]? = some (.cells #[.int .i64 1, .int .i64 3, .int .i64 20, .int .i64 100, .int .i64 0, .int .i64 100] 25 (0, 0)) ∧ W.heap[x1]? = some (.cells #[.int .i64 0, .int .i64 40] 36) ∧ W.heap[x2]? = some (.cells #[.int .i64 20, .int .i64 40] 36) ∧ W.heap[x3]? = some (.cells #[.int .i64 40, .int .i64 80] 36) ∧ W.heap[x4]? = some (.cells #[.int .i64 37, .int .i64 44] 36) ∧ Kd.R k43 43 W 0 (fun k => k ≠ w.heap.size + 1) v [⟨1, 10, 990, 0⟩, ⟨1, 14, 30, 0⟩]
theorem PK.bel {w W : World} {x1 x2 x3 x4 : Nat} {v : Value} (h : PK w x1 x2 x3 x4 v W) : Below w.heap.size w W := h.1
theorem PK.below {w W W2 : World} {x1 x2 x3 x4 : Nat} {v : Value} (h : PK w x1 x2 x3 x4 v W) (hb : Below W.heap.size W W2) : PK w x1 x2 x3 x4 v W2 :=
  ⟨below_step h.1 hb, blk_below h.2.1 hb, blk_below h.2.2.1 hb, blk_below h.2.2.2.1 hb, blk_below h.2.2.2.2.1 hb, blk_below h.2.2.2.2.2.1 hb, Kd.R_below h.2.2.2.2.2.2 hb⟩
theorem PK.alloc {w W : World} {x1 x2 x3 x4 : Nat} {v : Value} (h : PK w x1 x2 x3 x4 v W) (o : Obj) : PK w x1 x2 x3 x4 v (W.alloc o) := h.below (below_alloc (Below.refl _ _) o)
theorem PK.drew {w W : World} {x1 x2 x3 x4 : Nat} {v : Value} (h : PK w x1 x2 x3 x4 v W) : PK w x1 x2 x3 x4 v W.drew := h.below (below_drew (Below.refl _ _))
theorem PK.grown {w W W2 : World} {x1 x2 x3 x4 : Nat} {v : Value} (h : PK w x1 x2 x3 x4 v W) (hg : W.grownBy W2 (some (w.heap.size + 1))) (hn : w.heap.size + 1 < x1 ∧ w.heap.size + 1 < x2 ∧ w.heap.size + 1 < x3 ∧ w.heap.size + 1 < x4) : PK w x1 x2 x3 x4 v W2 :=
  ⟨h.1.grown hg h.1.size (fun k e => by cases e; omega), blk_grown h.2.1 hg (fun e => by injection e with e; omega), blk_grown h.2.2.1 hg (fun e => by injection e with e; omega), blk_grown h.2.2.2.1 hg (fun e => by injection e with e; omega), blk_grown h.2.2.2.2.1 hg (fun e => by injection e with e; omega), blk_grown h.2.2.2.2.2.1 hg (fun e => by injection e with e; omega), Kd.R_grown h.2.2.2.2.2.2 hg (fun k hk e => by injection e with e; exact hk e)⟩
theorem PK.set {w W W0 : World} {x1 x2 x3 x4 b : Nat} {v : Value} {cs : Array Value} (h : PK w x1 x2 x3 x4 v W) (h0 : PK w x1 x2 x3 x4 v W0) (hle : W0.heap.size ≤ b) (hq : W.heap[b]? = some (.cells cs 36 (0, 0))) (j : Nat) (u : Value) : PK w x1 x2 x3 x4 v (W.setCell ⟨b, j, none⟩ u) := by
  have l0 := blk_lt h0.2.1
  have l1 := blk_lt h0.2.2.1
  have l2 := blk_lt h0.2.2.2.1
  have l3 := blk_lt h0.2.2.2.2.1
  have l4 := blk_lt h0.2.2.2.2.2.1
  have n0 : w.heap.size ≠ b := by omega
  have n1 : x1 ≠ b := by omega
  have n2 : x2 ≠ b := by omega
  have n3 : x3 ≠ b := by omega
  have n4 : x4 ≠ b := by omega
  exact ⟨below_set h.1 (by omega), blk_far h.2.1 n0 _, blk_far h.2.2.1 n1 _, blk_far h.2.2.2.1 n2 _, blk_far h.2.2.2.2.1 n3 _, blk_far h.2.2.2.2.2.1 n4 _, Kd.R_set h.2.2.2.2.2.2 hq (by decide) j u⟩
theorem blk_away {a n : Nat} (h : a < n) : some (n + 1) ≠ some a := fun e => by injection e with e; omega
theorem blk_away0 {a n : Nat} (h : a < n) : some n ≠ some a := fun e => by injection e with e; omega

set_option maxHeartbeats 16000000 in
set_option maxRecDepth 100000 in
theorem head_calls (w : World) (hg : Gl w) : Calls Tryd.prog 11 #[] w fun e w' => e = .returned (.bool true) ∧ Below w.heap.size w w' := by
  have hu43 := Tryd.underlying43
  have hu25 := Tryd.underlying25
  have hu23 := Tryd.underlying23
  have hu36 := Tryd.underlying36
  have HGl := Aside0.mk hg
  have HC1 : Aside0 (∀ W, Kd.C k43 W (some ⟨w.heap.size + 1, 0, none⟩) 3 [⟨1, 14, 30, 0⟩, ⟨1, 10, 990, 0⟩, ⟨2, 12, 500, 0⟩] → Gl W → Calls Tryd.prog 13 #[.agg #[.int .i64 1, .int .i64 3, .int .i64 20, .int .i64 0, .int .i64 0, .int .i64 100], .slice (some ⟨w.heap.size + 1, 0, none⟩) 3 3, .int .i64 0] W fun e w' => ∃ v, e = .returned (.tuple #[v, .int .i64 0]) ∧ Kd.R k43 43 w' W.heap.size (fun _ => True) v [⟨1, 10, 990, 0⟩, ⟨1, 14, 30, 0⟩] ∧ Below W.heap.size W w') := ⟨fun W h1 h2 => by
    have h := meter_Clean_calls ⟨1, 3, 20, 0, ⟨0, 100⟩⟩ (some ⟨w.heap.size + 1, 0, none⟩) 3 [⟨1, 14, 30, 0⟩, ⟨1, 10, 990, 0⟩, ⟨2, 12, 500, 0⟩] 0 W h1 (by decide) h2
    rw [hF1] at h
    exact h⟩
  have HB1 : Aside0 (∀ W, Kd.C k43 W (some ⟨w.heap.size + 1, 0, none⟩) 3 [⟨1, 14, 30, 0⟩, ⟨1, 10, 990, 0⟩, ⟨2, 12, 500, 0⟩] → Gl W → Calls Tryd.prog 18 #[.agg #[.int .i64 1, .int .i64 3, .int .i64 20, .int .i64 0, .int .i64 0, .int .i64 100], .slice (some ⟨w.heap.size + 1, 0, none⟩) 3 3, .agg #[.int .i64 10, .int .i64 12], .int .i64 0] W fun e w' => e = .returned (.tuple #[.agg #[.int .i64 0, .int .i64 40], .int .i64 0]) ∧ Below W.heap.size W w') := ⟨fun W h1 h2 => by
    have h := meter_Bounds_calls ⟨1, 3, 20, 0, ⟨0, 100⟩⟩ (some ⟨w.heap.size + 1, 0, none⟩) 3 [⟨1, 14, 30, 0⟩, ⟨1, 10, 990, 0⟩, ⟨2, 12, 500, 0⟩] ⟨10, 12⟩ 0 W h1 (by decide) h2
    rw [hF2] at h
    exact h⟩
  have HB2 : Aside0 (∀ W, Kd.C k43 W (some ⟨w.heap.size + 1, 0, none⟩) 3 [⟨1, 14, 30, 0⟩, ⟨1, 10, 990, 0⟩, ⟨2, 12, 500, 0⟩] → Gl W → Calls Tryd.prog 18 #[.agg #[.int .i64 1, .int .i64 3, .int .i64 20, .int .i64 0, .int .i64 0, .int .i64 100], .slice (some ⟨w.heap.size + 1, 0, none⟩) 3 3, .agg #[.int .i64 10, .int .i64 13], .int .i64 0] W fun e w' => e = .returned (.tuple #[.agg #[.int .i64 20, .int .i64 40], .int .i64 0]) ∧ Below W.heap.size W w') := ⟨fun W h1 h2 => by
    have h := meter_Bounds_calls ⟨1, 3, 20, 0, ⟨0, 100⟩⟩ (some ⟨w.heap.size + 1, 0, none⟩) 3 [⟨1, 14, 30, 0⟩, ⟨1, 10, 990, 0⟩, ⟨2, 12, 500, 0⟩] ⟨10, 13⟩ 0 W h1 (by decide) h2
    rw [hF3] at h
    exact h⟩
  have HB3 : Aside0 (∀ W, Kd.C k43 W (some ⟨w.heap.size + 1, 0, none⟩) 3 [⟨1, 14, 30, 0⟩, ⟨1, 10, 990, 0⟩, ⟨2, 12, 500, 0⟩] → Gl W → Calls Tryd.prog 18 #[.agg #[.int .i64 1, .int .i64 3, .int .i64 20, .int .i64 0, .int .i64 0, .int .i64 100], .slice (some ⟨w.heap.size + 1, 0, none⟩) 3 3, .agg #[.int .i64 8, .int .i64 14], .int .i64 0] W fun e w' => e = .returned (.tuple #[.agg #[.int .i64 40, .int .i64 80], .int .i64 0]) ∧ Below W.heap.size W w') := ⟨fun W h1 h2 => by
    have h := meter_Bounds_calls ⟨1, 3, 20, 0, ⟨0, 100⟩⟩ (some ⟨w.heap.size + 1, 0, none⟩) 3 [⟨1, 14, 30, 0⟩, ⟨1, 10, 990, 0⟩, ⟨2, 12, 500, 0⟩] ⟨8, 14⟩ 0 W h1 (by decide) h2
    rw [hF4] at h
    exact h⟩
  have HS5 : Aside0 (∀ W g, Kd.C k25 W (some ⟨g, 0, none⟩) 1 [⟨1, 3, 20, 100, ⟨0, 100⟩⟩] → Kd.C k43 W (some ⟨w.heap.size + 1, 0, none⟩) 3 [⟨1, 14, 30, 0⟩, ⟨1, 10, 990, 0⟩, ⟨2, 12, 500, 0⟩] → Gl W → Calls Tryd.prog 20 #[.slice (some ⟨g, 0, none⟩) 1 1, .slice (some ⟨w.heap.size + 1, 0, none⟩) 3 3, .agg #[.int .i64 10, .int .i64 14], .int .i64 0] W fun e w' => e = .returned (.tuple #[.agg #[.int .i64 37, .int .i64 44], .int .i64 0]) ∧ Below W.heap.size W w') := ⟨fun W g h0 h1 h2 => by
    have h := meter_Several_calls (some ⟨g, 0, none⟩) 1 [⟨1, 3, 20, 100, ⟨0, 100⟩⟩] (some ⟨w.heap.size + 1, 0, none⟩) 3 [⟨1, 14, 30, 0⟩, ⟨1, 10, 990, 0⟩, ⟨2, 12, 500, 0⟩] ⟨10, 14⟩ 0 W h0 (by decide) (by decide) h1 (by decide) h2
    rw [hF5] at h
    exact h⟩
  have HB6 : Aside0 (∀ W A c, 4 ≤ c → Kd.C k43 W A 4 [⟨1, 14, 30, 0⟩, ⟨1, 10, 990, 0⟩, ⟨2, 12, 500, 0⟩, ⟨1, 15, 51, 0⟩] → Gl W → Calls Tryd.prog 18 #[.agg #[.int .i64 1, .int .i64 3, .int .i64 20, .int .i64 100, .int .i64 0, .int .i64 100], .slice A 4 c, .agg #[.int .i64 8, .int .i64 14], .int .i64 0] W fun e w' => e = .returned (.tuple #[.agg #[.int .i64 0, .int .i64 0], .int .i64 30]) ∧ Below W.heap.size W w') := ⟨fun W A c hc h1 h2 => by
    have h := meter_Bounds_calls ⟨1, 3, 20, 100, ⟨0, 100⟩⟩ A c [⟨1, 14, 30, 0⟩, ⟨1, 10, 990, 0⟩, ⟨2, 12, 500, 0⟩, ⟨1, 15, 51, 0⟩] ⟨8, 14⟩ 0 W h1 hc h2
    rw [hF6] at h
    exact h⟩
  have HV7 : Aside0 (∀ W g, Kd.C k25 W (some ⟨g, 0, none⟩) 1 [⟨1, 3, 20, 100, ⟨0, 100⟩⟩] → Calls Tryd.prog 15 #[.slice (some ⟨g, 0, none⟩) 1 1] W fun e w' => e = .returned (.bool true) ∧ Below W.heap.size W w') := ⟨fun W g h0 => by
    have h := meter_Valid_calls (some ⟨g, 0, none⟩) 1 [⟨1, 3, 20, 100, ⟨0, 100⟩⟩] W h0 (by decide) (by decide)
    rw [hF7] at h
    exact h⟩
  have HSm : Aside0 (∀ W A c A', 2 ≤ c → Kd.C k43 W A 2 [⟨1, 10, 990, 0⟩, ⟨1, 14, 30, 0⟩] → Kd.C k43 W A' 2 [⟨1, 10, 990, 0⟩, ⟨1, 14, 30, 0⟩] → Calls Tryd.prog 17 #[.slice A 2 c, .slice A' 2 2] W fun e w' => e = .returned (.bool true) ∧ Below W.heap.size W w') := ⟨fun W A c A' hc h1 h2 => (cohousingref27_Same.calls 5 A c [⟨1, 10, 990, 0⟩, ⟨1, 14, 30, 0⟩] A' 2 [⟨1, 10, 990, 0⟩, ⟨1, 14, 30, 0⟩] true W h1 hc h2 (by decide) hF8).mono fun e w' h => ⟨h.1, h.2.below⟩⟩
  have HB := Aside0.mk (below_alloc (below_alloc (Below.refl w.heap.size w) (.cells #[.int .i64 1, .int .i64 3, .int .i64 20, .int .i64 0, .int .i64 0, .int .i64 100] 25)) (.cells #[.int .i64 1, .int .i64 14, .int .i64 30, .int .i64 0, .int .i64 1, .int .i64 10, .int .i64 990, .int .i64 0, .int .i64 2, .int .i64 12, .int .i64 500, .int .i64 0] 43))
  have BM := Aside0.mk (blk_alloc (blk_new w (.cells #[.int .i64 1, .int .i64 3, .int .i64 20, .int .i64 0, .int .i64 0, .int .i64 100] 25)) (.cells #[.int .i64 1, .int .i64 14, .int .i64 30, .int .i64 0, .int .i64 1, .int .i64 10, .int .i64 990, .int .i64 0, .int .i64 2, .int .i64 12, .int .i64 500, .int .i64 0] 43))
  have BL := Aside0.mk (blk_p1 w (.cells #[.int .i64 1, .int .i64 3, .int .i64 20, .int .i64 0, .int .i64 0, .int .i64 100] 25) (.cells #[.int .i64 1, .int .i64 14, .int .i64 30, .int .i64 0, .int .i64 1, .int .i64 10, .int .i64 990, .int .i64 0, .int .i64 2, .int .i64 12, .int .i64 500, .int .i64 0] 43))
  clear hg
  go_enter Tryd.func11, Tryd.ntmps11
  go_upto_region 7 with (first
    | (go_at_call 13; (with_reducible refine (HC1.out _ (R_C43 (R_blk43 [⟨1, 14, 30, 0⟩, ⟨1, 10, 990, 0⟩, ⟨2, 12, 500, 0⟩] BL.out (by decide) (Nat.zero_le _))) (HGl.out.below HB.out)).mono ?_); rintro e w1 ⟨v, rfl, hR, hb⟩; obtain ⟨A1, c1, rfl, hl1, hc1⟩ := Kd.R_reads hR; have HRR := Aside0.mk hR; have HL1 := Aside0.mk hl1; replace HB := Aside0.mk (below_step HB.out hb); replace BM := Aside0.mk (blk_below BM.out hb); replace BL := Aside0.mk (blk_below BL.out hb); have z0 : w1.cell? ⟨w.heap.size, 0, none⟩ = some (.int .i64 1) := (blk_cell BM.out 0).trans rfl; have z1 : w1.cell? ⟨w.heap.size, 1, none⟩ = some (.int .i64 3) := (blk_cell BM.out 1).trans rfl; have z2 : w1.cell? ⟨w.heap.size, 2, none⟩ = some (.int .i64 20) := (blk_cell BM.out 2).trans rfl; have z3 : w1.cell? ⟨w.heap.size, 3, none⟩ = some (.int .i64 0) := (blk_cell BM.out 3).trans rfl; have z4 : w1.cell? ⟨w.heap.size, 4, none⟩ = some (.int .i64 0) := (blk_cell BM.out 4).trans rfl; have z5 : w1.cell? ⟨w.heap.size, 5, none⟩ = some (.int .i64 100) := (blk_cell BM.out 5).trans rfl; clear hb hR hc1 hl1)
    | (go_at_call 18; (with_reducible refine (HB1.out _ (R_C43 (R_blk43 [⟨1, 14, 30, 0⟩, ⟨1, 10, 990, 0⟩, ⟨2, 12, 500, 0⟩] BL.out (by decide) (Nat.zero_le _))) (HGl.out.below HB.out)).mono ?_); rintro e w2 ⟨rfl, hb⟩; have hn1 := blk_lt (blk_below BL.out hb); replace HB := Aside0.mk (below_alloc (below_step HB.out hb) (.cells #[.int .i64 0, .int .i64 40] 36)); replace BM := Aside0.mk (blk_alloc (blk_below BM.out hb) (.cells #[.int .i64 0, .int .i64 40] 36)); replace BL := Aside0.mk (blk_alloc (blk_below BL.out hb) (.cells #[.int .i64 0, .int .i64 40] 36)); have BX1 := Aside0.mk (blk_new w2 (.cells #[.int .i64 0, .int .i64 40] 36)); replace HRR := Aside0.mk (Kd.R_alloc (Kd.R_below HRR.out hb) (.cells #[.int .i64 0, .int .i64 40] 36)); have z0 : (w2.alloc (.cells #[.int .i64 0, .int .i64 40] 36)).cell? ⟨w.heap.size, 0, none⟩ = some (.int .i64 1) := (blk_cell BM.out 0).trans rfl; have z1 : (w2.alloc (.cells #[.int .i64 0, .int .i64 40] 36)).cell? ⟨w.heap.size, 1, none⟩ = some (.int .i64 3) := (blk_cell BM.out 1).trans rfl; have z2 : (w2.alloc (.cells #[.int .i64 0, .int .i64 40] 36)).cell? ⟨w.heap.size, 2, none⟩ = some (.int .i64 20) := (blk_cell BM.out 2).trans rfl; have z3 : (w2.alloc (.cells #[.int .i64 0, .int .i64 40] 36)).cell? ⟨w.heap.size, 3, none⟩ = some (.int .i64 0) := (blk_cell BM.out 3).trans rfl; have z4 : (w2.alloc (.cells #[.int .i64 0, .int .i64 40] 36)).cell? ⟨w.heap.size, 4, none⟩ = some (.int .i64 0) := (blk_cell BM.out 4).trans rfl; have z5 : (w2.alloc (.cells #[.int .i64 0, .int .i64 40] 36)).cell? ⟨w.heap.size, 5, none⟩ = some (.int .i64 100) := (blk_cell BM.out 5).trans rfl; clear hb)
    | (go_at_call 18; (with_reducible refine (HB2.out _ (R_C43 (R_blk43 [⟨1, 14, 30, 0⟩, ⟨1, 10, 990, 0⟩, ⟨2, 12, 500, 0⟩] BL.out (by decide) (Nat.zero_le _))) (HGl.out.below HB.out)).mono ?_); rintro e w3 ⟨rfl, hb⟩; have hn2 := blk_lt (blk_below BL.out hb); replace HB := Aside0.mk (below_alloc (below_step HB.out hb) (.cells #[.int .i64 20, .int .i64 40] 36)); replace BM := Aside0.mk (blk_alloc (blk_below BM.out hb) (.cells #[.int .i64 20, .int .i64 40] 36)); replace BL := Aside0.mk (blk_alloc (blk_below BL.out hb) (.cells #[.int .i64 20, .int .i64 40] 36)); replace BX1 := Aside0.mk (blk_alloc (blk_below BX1.out hb) (.cells #[.int .i64 20, .int .i64 40] 36)); have BX2 := Aside0.mk (blk_new w3 (.cells #[.int .i64 20, .int .i64 40] 36)); replace HRR := Aside0.mk (Kd.R_alloc (Kd.R_below HRR.out hb) (.cells #[.int .i64 20, .int .i64 40] 36)); have z0 : (w3.alloc (.cells #[.int .i64 20, .int .i64 40] 36)).cell? ⟨w.heap.size, 0, none⟩ = some (.int .i64 1) := (blk_cell BM.out 0).trans rfl; have z1 : (w3.alloc (.cells #[.int .i64 20, .int .i64 40] 36)).cell? ⟨w.heap.size, 1, none⟩ = some (.int .i64 3) := (blk_cell BM.out 1).trans rfl; have z2 : (w3.alloc (.cells #[.int .i64 20, .int .i64 40] 36)).cell? ⟨w.heap.size, 2, none⟩ = some (.int .i64 20) := (blk_cell BM.out 2).trans rfl; have z3 : (w3.alloc (.cells #[.int .i64 20, .int .i64 40] 36)).cell? ⟨w.heap.size, 3, none⟩ = some (.int .i64 0) := (blk_cell BM.out 3).trans rfl; have z4 : (w3.alloc (.cells #[.int .i64 20, .int .i64 40] 36)).cell? ⟨w.heap.size, 4, none⟩ = some (.int .i64 0) := (blk_cell BM.out 4).trans rfl; have z5 : (w3.alloc (.cells #[.int .i64 20, .int .i64 40] 36)).cell? ⟨w.heap.size, 5, none⟩ = some (.int .i64 100) := (blk_cell BM.out 5).trans rfl; clear hb)
    | (go_at_call 18; (with_reducible refine (HB3.out _ (R_C43 (R_blk43 [⟨1, 14, 30, 0⟩, ⟨1, 10, 990, 0⟩, ⟨2, 12, 500, 0⟩] BL.out (by decide) (Nat.zero_le _))) (HGl.out.below HB.out)).mono ?_); rintro e w4 ⟨rfl, hb⟩; have hn3 := blk_lt (blk_below BL.out hb); replace HB := Aside0.mk (below_alloc (below_step HB.out hb) (.cells #[.int .i64 40, .int .i64 80] 36)); replace BM := Aside0.mk (blk_alloc (blk_below BM.out hb) (.cells #[.int .i64 40, .int .i64 80] 36)); replace BL := Aside0.mk (blk_alloc (blk_below BL.out hb) (.cells #[.int .i64 40, .int .i64 80] 36)); replace BX1 := Aside0.mk (blk_alloc (blk_below BX1.out hb) (.cells #[.int .i64 40, .int .i64 80] 36)); replace BX2 := Aside0.mk (blk_alloc (blk_below BX2.out hb) (.cells #[.int .i64 40, .int .i64 80] 36)); have BX3 := Aside0.mk (blk_new w4 (.cells #[.int .i64 40, .int .i64 80] 36)); replace HRR := Aside0.mk (Kd.R_alloc (Kd.R_below HRR.out hb) (.cells #[.int .i64 40, .int .i64 80] 36)); have z0 : (w4.alloc (.cells #[.int .i64 40, .int .i64 80] 36)).cell? ⟨w.heap.size, 0, none⟩ = some (.int .i64 1) := (blk_cell BM.out 0).trans rfl; have z1 : (w4.alloc (.cells #[.int .i64 40, .int .i64 80] 36)).cell? ⟨w.heap.size, 1, none⟩ = some (.int .i64 3) := (blk_cell BM.out 1).trans rfl; have z2 : (w4.alloc (.cells #[.int .i64 40, .int .i64 80] 36)).cell? ⟨w.heap.size, 2, none⟩ = some (.int .i64 20) := (blk_cell BM.out 2).trans rfl; have z3 : (w4.alloc (.cells #[.int .i64 40, .int .i64 80] 36)).cell? ⟨w.heap.size, 3, none⟩ = some (.int .i64 0) := (blk_cell BM.out 3).trans rfl; have z4 : (w4.alloc (.cells #[.int .i64 40, .int .i64 80] 36)).cell? ⟨w.heap.size, 4, none⟩ = some (.int .i64 0) := (blk_cell BM.out 4).trans rfl; have z5 : (w4.alloc (.cells #[.int .i64 40, .int .i64 80] 36)).cell? ⟨w.heap.size, 5, none⟩ = some (.int .i64 100) := (blk_cell BM.out 5).trans rfl; clear hb))
  have zf := blk_frozen BM.out 3
  have BM0 := BM
  go_upto_region 8 with (fail)
  have hs4 := HB.out.size
  have hl1 := blk_lt BM.out
  have hl2 := blk_lt BL.out
  have hx1 := blk_lt BX1.out
  have hx2 := blk_lt BX2.out
  have hx3 := blk_lt BX3.out
  replace HB : Aside0 (Below w.heap.size w ((w4.alloc (.cells #[.int .i64 40, .int .i64 80] 36)).setCell ⟨w.heap.size, 3, none⟩ (.int .i64 100))) := ⟨below_set HB.out (Nat.le_refl _)⟩
  replace BM := Aside0.mk (blk_put BM.out 3 (.int .i64 100) (show _ = #[.int .i64 1, .int .i64 3, .int .i64 20, .int .i64 100, .int .i64 0, .int .i64 100] from rfl))
  replace BL := Aside0.mk (blk_far (p := ⟨w.heap.size, 3, none⟩) BL.out (Ne.symm (Nat.ne_of_lt (Nat.lt_succ_self _))) (.int .i64 100))
  replace BX1 := Aside0.mk (blk_far (p := ⟨w.heap.size, 3, none⟩) BX1.out (blk_ne BX1.out BM0.out (by decide)) (.int .i64 100))
  replace BX2 := Aside0.mk (blk_far (p := ⟨w.heap.size, 3, none⟩) BX2.out (blk_ne BX2.out BM0.out (by decide)) (.int .i64 100))
  replace BX3 := Aside0.mk (blk_far (p := ⟨w.heap.size, 3, none⟩) BX3.out (blk_ne BX3.out BM0.out (by decide)) (.int .i64 100))
  replace HRR := Aside0.mk (Kd.R_set HRR.out BM0.out (by decide) 3 (.int .i64 100))
  have hsz : ((w4.alloc (.cells #[.int .i64 40, .int .i64 80] 36)).setCell ⟨w.heap.size, 3, none⟩ (.int .i64 100)).heap.size = w4.heap.size + 1 := by simp [World.setCell]
  have HSZ := Aside0.mk hsz
  clear hsz zf BM0
  generalize ((w4.alloc (.cells #[.int .i64 40, .int .i64 80] 36)).setCell ⟨w.heap.size, 3, none⟩ (.int .i64 100)) = wb at *
  have z0 : wb.cell? ⟨w.heap.size, 0, none⟩ = some (.int .i64 1) := (blk_cell BM.out 0).trans rfl
  have z1 : wb.cell? ⟨w.heap.size, 1, none⟩ = some (.int .i64 3) := (blk_cell BM.out 1).trans rfl
  have z2 : wb.cell? ⟨w.heap.size, 2, none⟩ = some (.int .i64 20) := (blk_cell BM.out 2).trans rfl
  have z3 : wb.cell? ⟨w.heap.size, 3, none⟩ = some (.int .i64 100) := (blk_cell BM.out 3).trans rfl
  have z4 : wb.cell? ⟨w.heap.size, 4, none⟩ = some (.int .i64 0) := (blk_cell BM.out 4).trans rfl
  have z5 : wb.cell? ⟨w.heap.size, 5, none⟩ = some (.int .i64 100) := (blk_cell BM.out 5).trans rfl
  rw [← HSZ.out] at *
  clear HSZ
  go_upto_region 9 with (first
    | (go_at_call 20; (with_reducible refine (HS5.out _ _ (R_C25 (R_blk25 [⟨1, 3, 20, 100, ⟨0, 100⟩⟩] (blk_new _ _) (by decide) (Nat.zero_le _))) (R_C43 (R_blk43 [⟨1, 14, 30, 0⟩, ⟨1, 10, 990, 0⟩, ⟨2, 12, 500, 0⟩] (blk_alloc BL.out _) (by decide) (Nat.zero_le _))) (HGl.out.below (below_alloc HB.out _))).mono ?_); rintro e w5 ⟨rfl, hb⟩; have hn4 := blk_lt (blk_below (blk_alloc BL.out (.cells #[.int .i64 1, .int .i64 3, .int .i64 20, .int .i64 100, .int .i64 0, .int .i64 100] 25)) hb); replace HB := Aside0.mk (below_alloc (below_step (below_alloc HB.out _) hb) (.cells #[.int .i64 37, .int .i64 44] 36)); replace BM := Aside0.mk (blk_alloc (blk_below (blk_alloc BM.out _) hb) (.cells #[.int .i64 37, .int .i64 44] 36)); replace BL := Aside0.mk (blk_alloc (blk_below (blk_alloc BL.out _) hb) (.cells #[.int .i64 37, .int .i64 44] 36)); replace BX1 := Aside0.mk (blk_alloc (blk_below (blk_alloc BX1.out _) hb) (.cells #[.int .i64 37, .int .i64 44] 36)); replace BX2 := Aside0.mk (blk_alloc (blk_below (blk_alloc BX2.out _) hb) (.cells #[.int .i64 37, .int .i64 44] 36)); replace BX3 := Aside0.mk (blk_alloc (blk_below (blk_alloc BX3.out _) hb) (.cells #[.int .i64 37, .int .i64 44] 36)); have BX4 := Aside0.mk (blk_new w5 (.cells #[.int .i64 37, .int .i64 44] 36)); replace HRR := Aside0.mk (Kd.R_alloc (Kd.R_below (Kd.R_alloc HRR.out _) hb) (.cells #[.int .i64 37, .int .i64 44] 36)); clear hb))
  have HPK : Aside0 (PK w w2.heap.size w3.heap.size w4.heap.size w5.heap.size (.slice A1 2 c1) (w5.alloc (.cells #[.int .i64 37, .int .i64 44] 36))) := ⟨⟨HB.out, BM.out, BX1.out, BX2.out, BX3.out, BX4.out, Kd.R_lower (Kd.R_mono (Kd.R_bound HRR.out) (fun k hk => by have h := hk.2.1; simp at h; show k ≠ _; omega)) (Nat.zero_le _)⟩⟩
  have HNN : Aside0 (w.heap.size + 1 < w2.heap.size ∧ w.heap.size + 1 < w3.heap.size ∧ w.heap.size + 1 < w4.heap.size ∧ w.heap.size + 1 < w5.heap.size) := ⟨hn1, hn2, hn3, hn4⟩
  have HL1' : Aside0 (2 ≤ c1) := ⟨HL1.out⟩
  clear BX1 BX2 BX3 BX4 BM HRR HL1 hn1 hn2 hn3 hn4 HC1 HB1 HB2 HB3 HS5 hs4 hl1 hl2 hx1 hx2 hx3
  generalize w2.heap.size = x1 at *
  generalize w3.heap.size = x2 at *
  generalize w4.heap.size = x3 at *
  have hx4 : (w5.alloc (.cells #[.int .i64 37, .int .i64 44] 36)).heap.size = w5.heap.size + 1 := by simp
  have HX4 := Aside0.mk hx4
  clear hx4
  have BLt := blk_lt BL.out
  generalize w5.heap.size = x4 at *
  generalize w5.alloc (.cells #[.int .i64 37, .int .i64 44] 36) = wc at *
  have HS := Aside0.mk (fun W (h : PK w x1 x2 x3 x4 (.slice A1 2 c1) W) => show PK w x1 x2 x3 x4 (.slice A1 2 c1) W ∧ W.cell? ⟨w.heap.size, 0, none⟩ = some (.int .i64 1) ∧ W.cell? ⟨w.heap.size, 1, none⟩ = some (.int .i64 3) ∧ W.cell? ⟨w.heap.size, 2, none⟩ = some (.int .i64 20) ∧ W.cell? ⟨w.heap.size, 3, none⟩ = some (.int .i64 100) ∧ W.cell? ⟨w.heap.size, 4, none⟩ = some (.int .i64 0) ∧ W.cell? ⟨w.heap.size, 5, none⟩ = some (.int .i64 100) from ⟨h, (blk_cell h.2.1 0).trans rfl, (blk_cell h.2.1 1).trans rfl, (blk_cell h.2.1 2).trans rfl, (blk_cell h.2.1 3).trans rfl, (blk_cell h.2.1 4).trans rfl, (blk_cell h.2.1 5).trans rfl⟩)
  have k0 : wc.cell? ⟨w.heap.size, 0, none⟩ = some (.int .i64 1) := (blk_cell HPK.out.2.1 0).trans rfl
  have k1 : wc.cell? ⟨w.heap.size, 1, none⟩ = some (.int .i64 3) := (blk_cell HPK.out.2.1 1).trans rfl
  have k2 : wc.cell? ⟨w.heap.size, 2, none⟩ = some (.int .i64 20) := (blk_cell HPK.out.2.1 2).trans rfl
  have k3 : wc.cell? ⟨w.heap.size, 3, none⟩ = some (.int .i64 100) := (blk_cell HPK.out.2.1 3).trans rfl
  have k4 : wc.cell? ⟨w.heap.size, 4, none⟩ = some (.int .i64 0) := (blk_cell HPK.out.2.1 4).trans rfl
  have k5 : wc.cell? ⟨w.heap.size, 5, none⟩ = some (.int .i64 100) := (blk_cell HPK.out.2.1 5).trans rfl
  go_region_held3 (fun W => PK w x1 x2 x3 x4 (.slice A1 2 c1) W ∧ W.cell? ⟨w.heap.size, 0, none⟩ = some (.int .i64 1) ∧ W.cell? ⟨w.heap.size, 1, none⟩ = some (.int .i64 3) ∧ W.cell? ⟨w.heap.size, 2, none⟩ = some (.int .i64 20) ∧ W.cell? ⟨w.heap.size, 3, none⟩ = some (.int .i64 100) ∧ W.cell? ⟨w.heap.size, 4, none⟩ = some (.int .i64 0) ∧ W.cell? ⟨w.heap.size, 5, none⟩ = some (.int .i64 100))
    (refine HS.out _ (by first | ((repeat (first | exact HP7.out | exact HP6.out | exact HPK.out | apply PK.drew | apply PK.alloc)); done) | exact PK.set (PK.set HP7.out HP6.out (Nat.le_refl _) HQ7.out 0 _) HP6.out (Nat.le_refl _) (blk_set HQ7.out 0 _) 1 _ | exact PK.set (PK.set HP7.out HPK.out (Nat.le_refl _) HQ7.out 0 _) HPK.out (Nat.le_refl _) (blk_set HQ7.out 0 _) 1 _ | exact PK.set (PK.set HP7.out HPK.out (Nat.le_succ _) HQ7.out 0 _) HPK.out (Nat.le_succ _) (blk_set HQ7.out 0 _) 1 _))
    ((first
      | (refine Kd.R_append_rows_step k43 (Rr := k43.K _) 0 (by rfl) (.tmp 60) (.tmp 62) 27 43 (.agg #[.int .i64 0, .int .i64 0, .int .i64 0, .int .i64 0]) 32 (by rfl) Tryd.underlying27 info43 rfl (by decide) (by omega) (.slice (some ⟨w.heap.size + 1, 0, none⟩) 3 3) [⟨1, 14, 30, 0⟩, ⟨1, 10, 990, 0⟩, ⟨2, 12, 500, 0⟩] [⟨1, 15, 51, 0⟩] _ 1 1 (fun _ => True) (fun _ => False) (by rfl) (by rfl) ?aO ?aR (fun y cs h => k43_KM _ _ y cs h) (fun _ h => h.elim) (fun _ _ => trivial) (Below.refl _ _) (Nat.zero_le _) (by decide) ?_
         (case aO => exact R_blk43 [⟨1, 14, 30, 0⟩, ⟨1, 10, 990, 0⟩, ⟨2, 12, 500, 0⟩] (by repeat (first | exact BL.out | apply blk_alloc | apply blk_drew)) (by decide) (Nat.zero_le _))
         (case aR => first | exact k43_one ⟨1, 15, 51, 0⟩ (blk_new _ _) | exact k43_one ⟨1, 15, 51, 0⟩ (blk_alloc (blk_new _ _) _) | exact k43_one ⟨1, 15, 51, 0⟩ (blk_p1 _ _ _))
         intro v6 w6 hR6 hb6 hg6 hat6; have HP6 : Aside0 (PK w x1 x2 x3 x4 (.slice A1 2 c1) w6) := ⟨PK.grown (by repeat (first | exact HPK.out | apply PK.drew | apply PK.alloc)) hg6 HNN.out⟩; obtain ⟨A6, c6, hv6, hl6, hc6⟩ := Kd.R_reads hR6; have hv6' : v6 = .slice A6 4 c6 := hv6; subst hv6'; have HC6 : Aside0 (Kd.C k43 w6 A6 4 [⟨1, 14, 30, 0⟩, ⟨1, 10, 990, 0⟩, ⟨2, 12, 500, 0⟩, ⟨1, 15, 51, 0⟩]) := ⟨hc6⟩; have HL6 : Aside0 (4 ≤ c6) := ⟨hl6⟩; (first | (have HQ6 : Aside0 (w6.heap[wc.heap.size + 1]? = some (.cells #[.int .i64 0, .int .i64 0] 36)) := ⟨blk_grown (blk_p1 wc.drew _ _) hg6 (blk_away BLt)⟩) | (have HQ6 : Aside0 (w6.heap[wc.heap.size]? = some (.cells #[.int .i64 0, .int .i64 0] 36)) := ⟨blk_grown (blk_alloc (blk_new wc.drew _) _) hg6 (blk_away0 BLt)⟩) | skip); clear hR6 hb6 hg6 hat6 hv6 hl6 hc6)
      | (go_at_call 18; (with_reducible refine (HB6.out _ A6 c6 HL6.out ?cc ?gg).mono ?_); (case cc => first | exact HC6.out | exact Kd.C_alloc HC6.out _); (case gg => exact HGl.out.below (PK.bel (by repeat (first | exact HP6.out | apply PK.alloc)))); rintro e w7 ⟨rfl, hb7⟩; have HP7 : Aside0 (PK w x1 x2 x3 x4 (.slice A1 2 c1) w7) := ⟨PK.below (by repeat (first | exact HP6.out | apply PK.alloc)) hb7⟩; (first | (have HQ7 := Aside0.mk (blk_below HQ6.out hb7)) | (have HQ7 : Aside0 (w7.heap[w6.heap.size]? = some (.cells #[.int .i64 0, .int .i64 0] 36)) := ⟨blk_below (blk_new w6 _) hb7⟩) | skip); (first | (have q0 := (blk_cell HQ7.out 0).trans rfl; have q1 := (blk_cell HQ7.out 1).trans rfl; have qf0 := blk_frozen HQ7.out 0; have qf1 := blk_frozen HQ7.out 1) | skip); clear hb7)))
  · have HPf : Aside0 (PK w x1 x2 x3 x4 (.slice A1 2 c1) (w7.alloc (.cells #[.int .i64 0, .int .i64 0] 36))) := ⟨HP7.out.alloc _⟩
    generalize (w7.alloc (.cells #[.int .i64 0, .int .i64 0] 36)) = wf at *
    clear HP7 HP6 HPK
    have HRf : Aside0 (Kd.C k43 (wf.alloc (.cells #[.int .i64 1, .int .i64 10, .int .i64 990, .int .i64 0, .int .i64 1, .int .i64 14, .int .i64 30, .int .i64 0] 43)) A1 2 [⟨1, 10, 990, 0⟩, ⟨1, 14, 30, 0⟩]) := ⟨R_C43 (HPf.out.alloc _).2.2.2.2.2.2⟩
    go_wp2_with (first
      | (go_at_call 17; (with_reducible refine (HSm.out _ A1 c1 _ HL1'.out HRf.out (R_C43 (R_blk43 [⟨1, 10, 990, 0⟩, ⟨1, 14, 30, 0⟩] (blk_new _ _) (by decide) (Nat.zero_le _)))).mono ?_); rintro e w8 ⟨rfl, hb⟩; have HP8 := Aside0.mk (PK.below (PK.alloc HPf.out _) hb); have vx10 : w8.cell? ⟨x1, 0, none⟩ = some (.int .i64 0) := (blk_cell HP8.out.2.2.1 0).trans rfl; have vx11 : w8.cell? ⟨x1, 1, none⟩ = some (.int .i64 40) := (blk_cell HP8.out.2.2.1 1).trans rfl; have vx20 : w8.cell? ⟨x2, 0, none⟩ = some (.int .i64 20) := (blk_cell HP8.out.2.2.2.1 0).trans rfl; have vx21 : w8.cell? ⟨x2, 1, none⟩ = some (.int .i64 40) := (blk_cell HP8.out.2.2.2.1 1).trans rfl; have vx30 : w8.cell? ⟨x3, 0, none⟩ = some (.int .i64 40) := (blk_cell HP8.out.2.2.2.2.1 0).trans rfl; have vx31 : w8.cell? ⟨x3, 1, none⟩ = some (.int .i64 80) := (blk_cell HP8.out.2.2.2.2.1 1).trans rfl; have vx40 : w8.cell? ⟨x4, 0, none⟩ = some (.int .i64 37) := (blk_cell HP8.out.2.2.2.2.2.1 0).trans rfl; have vx41 : w8.cell? ⟨x4, 1, none⟩ = some (.int .i64 44) := (blk_cell HP8.out.2.2.2.2.2.1 1).trans rfl; have vm0 : w8.cell? ⟨w.heap.size, 0, none⟩ = some (.int .i64 1) := (blk_cell HP8.out.2.1 0).trans rfl; have vm1 : w8.cell? ⟨w.heap.size, 1, none⟩ = some (.int .i64 3) := (blk_cell HP8.out.2.1 1).trans rfl; have vm2 : w8.cell? ⟨w.heap.size, 2, none⟩ = some (.int .i64 20) := (blk_cell HP8.out.2.1 2).trans rfl; have vm3 : w8.cell? ⟨w.heap.size, 3, none⟩ = some (.int .i64 100) := (blk_cell HP8.out.2.1 3).trans rfl; have vm4 : w8.cell? ⟨w.heap.size, 4, none⟩ = some (.int .i64 0) := (blk_cell HP8.out.2.1 4).trans rfl; have vm5 : w8.cell? ⟨w.heap.size, 5, none⟩ = some (.int .i64 100) := (blk_cell HP8.out.2.1 5).trans rfl; clear hb)
      | (go_at_call 15; (with_reducible refine (HV7.out _ _ (R_C25 (R_blk25 [⟨1, 3, 20, 100, ⟨0, 100⟩⟩] (blk_new _ _) (by decide) (Nat.zero_le _)))).mono ?_); rintro e w9 ⟨rfl, hb⟩; have HP9 := Aside0.mk (PK.below (PK.alloc HP8.out _) hb); clear hb))
    go_ret
    exact ⟨rfl, HP9.out.bel⟩
  · have HPf : Aside0 (PK w x1 x2 x3 x4 (.slice A1 2 c1) ((w7.setCell ⟨w6.heap.size, 0, none⟩ (.int .i64 0)).setCell ⟨w6.heap.size, 1, none⟩ (.int .i64 0))) := ⟨PK.set (PK.set HP7.out HP6.out (Nat.le_refl _) HQ7.out 0 _) HP6.out (Nat.le_refl _) (blk_set HQ7.out 0 _) 1 _⟩
    generalize ((w7.setCell ⟨w6.heap.size, 0, none⟩ (.int .i64 0)).setCell ⟨w6.heap.size, 1, none⟩ (.int .i64 0)) = wf at *
    clear HP7 HP6 HPK
    have HRf : Aside0 (Kd.C k43 (wf.alloc (.cells #[.int .i64 1, .int .i64 10, .int .i64 990, .int .i64 0, .int .i64 1, .int .i64 14, .int .i64 30, .int .i64 0] 43)) A1 2 [⟨1, 10, 990, 0⟩, ⟨1, 14, 30, 0⟩]) := ⟨R_C43 (HPf.out.alloc _).2.2.2.2.2.2⟩
    go_wp2_with (first
      | (go_at_call 17; (with_reducible refine (HSm.out _ A1 c1 _ HL1'.out HRf.out (R_C43 (R_blk43 [⟨1, 10, 990, 0⟩, ⟨1, 14, 30, 0⟩] (blk_new _ _) (by decide) (Nat.zero_le _)))).mono ?_); rintro e w8 ⟨rfl, hb⟩; have HP8 := Aside0.mk (PK.below (PK.alloc HPf.out _) hb); have vx10 : w8.cell? ⟨x1, 0, none⟩ = some (.int .i64 0) := (blk_cell HP8.out.2.2.1 0).trans rfl; have vx11 : w8.cell? ⟨x1, 1, none⟩ = some (.int .i64 40) := (blk_cell HP8.out.2.2.1 1).trans rfl; have vx20 : w8.cell? ⟨x2, 0, none⟩ = some (.int .i64 20) := (blk_cell HP8.out.2.2.2.1 0).trans rfl; have vx21 : w8.cell? ⟨x2, 1, none⟩ = some (.int .i64 40) := (blk_cell HP8.out.2.2.2.1 1).trans rfl; have vx30 : w8.cell? ⟨x3, 0, none⟩ = some (.int .i64 40) := (blk_cell HP8.out.2.2.2.2.1 0).trans rfl; have vx31 : w8.cell? ⟨x3, 1, none⟩ = some (.int .i64 80) := (blk_cell HP8.out.2.2.2.2.1 1).trans rfl; have vx40 : w8.cell? ⟨x4, 0, none⟩ = some (.int .i64 37) := (blk_cell HP8.out.2.2.2.2.2.1 0).trans rfl; have vx41 : w8.cell? ⟨x4, 1, none⟩ = some (.int .i64 44) := (blk_cell HP8.out.2.2.2.2.2.1 1).trans rfl; have vm0 : w8.cell? ⟨w.heap.size, 0, none⟩ = some (.int .i64 1) := (blk_cell HP8.out.2.1 0).trans rfl; have vm1 : w8.cell? ⟨w.heap.size, 1, none⟩ = some (.int .i64 3) := (blk_cell HP8.out.2.1 1).trans rfl; have vm2 : w8.cell? ⟨w.heap.size, 2, none⟩ = some (.int .i64 20) := (blk_cell HP8.out.2.1 2).trans rfl; have vm3 : w8.cell? ⟨w.heap.size, 3, none⟩ = some (.int .i64 100) := (blk_cell HP8.out.2.1 3).trans rfl; have vm4 : w8.cell? ⟨w.heap.size, 4, none⟩ = some (.int .i64 0) := (blk_cell HP8.out.2.1 4).trans rfl; have vm5 : w8.cell? ⟨w.heap.size, 5, none⟩ = some (.int .i64 100) := (blk_cell HP8.out.2.1 5).trans rfl; clear hb)
      | (go_at_call 15; (with_reducible refine (HV7.out _ _ (R_C25 (R_blk25 [⟨1, 3, 20, 100, ⟨0, 100⟩⟩] (blk_new _ _) (by decide) (Nat.zero_le _)))).mono ?_); rintro e w9 ⟨rfl, hb⟩; have HP9 := Aside0.mk (PK.below (PK.alloc HP8.out _) hb); clear hb))
    go_ret
    exact ⟨rfl, HP9.out.bel⟩
  · have HPf : Aside0 (PK w x1 x2 x3 x4 (.slice A1 2 c1) ((w7.setCell ⟨wc.heap.size + 1, 0, none⟩ (.int .i64 0)).setCell ⟨wc.heap.size + 1, 1, none⟩ (.int .i64 0))) := ⟨PK.set (PK.set HP7.out HPK.out (Nat.le_succ _) HQ7.out 0 _) HPK.out (Nat.le_succ _) (blk_set HQ7.out 0 _) 1 _⟩
    generalize ((w7.setCell ⟨wc.heap.size + 1, 0, none⟩ (.int .i64 0)).setCell ⟨wc.heap.size + 1, 1, none⟩ (.int .i64 0)) = wf at *
    clear HP7 HP6 HPK
    have HRf : Aside0 (Kd.C k43 (wf.alloc (.cells #[.int .i64 1, .int .i64 10, .int .i64 990, .int .i64 0, .int .i64 1, .int .i64 14, .int .i64 30, .int .i64 0] 43)) A1 2 [⟨1, 10, 990, 0⟩, ⟨1, 14, 30, 0⟩]) := ⟨R_C43 (HPf.out.alloc _).2.2.2.2.2.2⟩
    go_wp2_with (first
      | (go_at_call 17; (with_reducible refine (HSm.out _ A1 c1 _ HL1'.out HRf.out (R_C43 (R_blk43 [⟨1, 10, 990, 0⟩, ⟨1, 14, 30, 0⟩] (blk_new _ _) (by decide) (Nat.zero_le _)))).mono ?_); rintro e w8 ⟨rfl, hb⟩; have HP8 := Aside0.mk (PK.below (PK.alloc HPf.out _) hb); have vx10 : w8.cell? ⟨x1, 0, none⟩ = some (.int .i64 0) := (blk_cell HP8.out.2.2.1 0).trans rfl; have vx11 : w8.cell? ⟨x1, 1, none⟩ = some (.int .i64 40) := (blk_cell HP8.out.2.2.1 1).trans rfl; have vx20 : w8.cell? ⟨x2, 0, none⟩ = some (.int .i64 20) := (blk_cell HP8.out.2.2.2.1 0).trans rfl; have vx21 : w8.cell? ⟨x2, 1, none⟩ = some (.int .i64 40) := (blk_cell HP8.out.2.2.2.1 1).trans rfl; have vx30 : w8.cell? ⟨x3, 0, none⟩ = some (.int .i64 40) := (blk_cell HP8.out.2.2.2.2.1 0).trans rfl; have vx31 : w8.cell? ⟨x3, 1, none⟩ = some (.int .i64 80) := (blk_cell HP8.out.2.2.2.2.1 1).trans rfl; have vx40 : w8.cell? ⟨x4, 0, none⟩ = some (.int .i64 37) := (blk_cell HP8.out.2.2.2.2.2.1 0).trans rfl; have vx41 : w8.cell? ⟨x4, 1, none⟩ = some (.int .i64 44) := (blk_cell HP8.out.2.2.2.2.2.1 1).trans rfl; have vm0 : w8.cell? ⟨w.heap.size, 0, none⟩ = some (.int .i64 1) := (blk_cell HP8.out.2.1 0).trans rfl; have vm1 : w8.cell? ⟨w.heap.size, 1, none⟩ = some (.int .i64 3) := (blk_cell HP8.out.2.1 1).trans rfl; have vm2 : w8.cell? ⟨w.heap.size, 2, none⟩ = some (.int .i64 20) := (blk_cell HP8.out.2.1 2).trans rfl; have vm3 : w8.cell? ⟨w.heap.size, 3, none⟩ = some (.int .i64 100) := (blk_cell HP8.out.2.1 3).trans rfl; have vm4 : w8.cell? ⟨w.heap.size, 4, none⟩ = some (.int .i64 0) := (blk_cell HP8.out.2.1 4).trans rfl; have vm5 : w8.cell? ⟨w.heap.size, 5, none⟩ = some (.int .i64 100) := (blk_cell HP8.out.2.1 5).trans rfl; clear hb)
      | (go_at_call 15; (with_reducible refine (HV7.out _ _ (R_C25 (R_blk25 [⟨1, 3, 20, 100, ⟨0, 100⟩⟩] (blk_new _ _) (by decide) (Nat.zero_le _)))).mono ?_); rintro e w9 ⟨rfl, hb⟩; have HP9 := Aside0.mk (PK.below (PK.alloc HP8.out _) hb); clear hb))
    go_ret
    exact ⟨rfl, HP9.out.bel⟩
  · have HPf : Aside0 (PK w x1 x2 x3 x4 (.slice A1 2 c1) ((w7.setCell ⟨wc.heap.size, 0, none⟩ (.int .i64 0)).setCell ⟨wc.heap.size, 1, none⟩ (.int .i64 0))) := ⟨PK.set (PK.set HP7.out HPK.out (Nat.le_refl _) HQ7.out 0 _) HPK.out (Nat.le_refl _) (blk_set HQ7.out 0 _) 1 _⟩
    generalize ((w7.setCell ⟨wc.heap.size, 0, none⟩ (.int .i64 0)).setCell ⟨wc.heap.size, 1, none⟩ (.int .i64 0)) = wf at *
    clear HP7 HP6 HPK
    have HRf : Aside0 (Kd.C k43 (wf.alloc (.cells #[.int .i64 1, .int .i64 10, .int .i64 990, .int .i64 0, .int .i64 1, .int .i64 14, .int .i64 30, .int .i64 0] 43)) A1 2 [⟨1, 10, 990, 0⟩, ⟨1, 14, 30, 0⟩]) := ⟨R_C43 (HPf.out.alloc _).2.2.2.2.2.2⟩
    go_wp2_with (first
      | (go_at_call 17; (with_reducible refine (HSm.out _ A1 c1 _ HL1'.out HRf.out (R_C43 (R_blk43 [⟨1, 10, 990, 0⟩, ⟨1, 14, 30, 0⟩] (blk_new _ _) (by decide) (Nat.zero_le _)))).mono ?_); rintro e w8 ⟨rfl, hb⟩; have HP8 := Aside0.mk (PK.below (PK.alloc HPf.out _) hb); have vx10 : w8.cell? ⟨x1, 0, none⟩ = some (.int .i64 0) := (blk_cell HP8.out.2.2.1 0).trans rfl; have vx11 : w8.cell? ⟨x1, 1, none⟩ = some (.int .i64 40) := (blk_cell HP8.out.2.2.1 1).trans rfl; have vx20 : w8.cell? ⟨x2, 0, none⟩ = some (.int .i64 20) := (blk_cell HP8.out.2.2.2.1 0).trans rfl; have vx21 : w8.cell? ⟨x2, 1, none⟩ = some (.int .i64 40) := (blk_cell HP8.out.2.2.2.1 1).trans rfl; have vx30 : w8.cell? ⟨x3, 0, none⟩ = some (.int .i64 40) := (blk_cell HP8.out.2.2.2.2.1 0).trans rfl; have vx31 : w8.cell? ⟨x3, 1, none⟩ = some (.int .i64 80) := (blk_cell HP8.out.2.2.2.2.1 1).trans rfl; have vx40 : w8.cell? ⟨x4, 0, none⟩ = some (.int .i64 37) := (blk_cell HP8.out.2.2.2.2.2.1 0).trans rfl; have vx41 : w8.cell? ⟨x4, 1, none⟩ = some (.int .i64 44) := (blk_cell HP8.out.2.2.2.2.2.1 1).trans rfl; have vm0 : w8.cell? ⟨w.heap.size, 0, none⟩ = some (.int .i64 1) := (blk_cell HP8.out.2.1 0).trans rfl; have vm1 : w8.cell? ⟨w.heap.size, 1, none⟩ = some (.int .i64 3) := (blk_cell HP8.out.2.1 1).trans rfl; have vm2 : w8.cell? ⟨w.heap.size, 2, none⟩ = some (.int .i64 20) := (blk_cell HP8.out.2.1 2).trans rfl; have vm3 : w8.cell? ⟨w.heap.size, 3, none⟩ = some (.int .i64 100) := (blk_cell HP8.out.2.1 3).trans rfl; have vm4 : w8.cell? ⟨w.heap.size, 4, none⟩ = some (.int .i64 0) := (blk_cell HP8.out.2.1 4).trans rfl; have vm5 : w8.cell? ⟨w.heap.size, 5, none⟩ = some (.int .i64 100) := (blk_cell HP8.out.2.1 5).trans rfl; clear hb)
      | (go_at_call 15; (with_reducible refine (HV7.out _ _ (R_C25 (R_blk25 [⟨1, 3, 20, 100, ⟨0, 100⟩⟩] (blk_new _ _) (by decide) (Nat.zero_le _)))).mono ?_); rintro e w9 ⟨rfl, hb⟩; have HP9 := Aside0.mk (PK.below (PK.alloc HP8.out _) hb); clear hb))
    go_ret
    exact ⟨rfl, HP9.out.bel⟩

end Go.Proofs.YtknfkibnocfjiaaDoor.P
