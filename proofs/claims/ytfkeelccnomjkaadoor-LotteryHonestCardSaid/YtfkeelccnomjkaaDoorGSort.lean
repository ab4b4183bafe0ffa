/- slices.Sort of a row of whole numbers of the call's own. -/
import Derived.Test.YtfkeelccnomjkaaDoorGField
import Derived.Test.YtfkeelccnomjkaaDoorLay
import Derived.Lib.OwnBridge
namespace Go.Proofs.YtfkeelccnomjkaaDoor.P
open Go.RowKit Go.Sort Go.Proofs.YtfkeelccnomjkaaDoorW.PrintWords Go.Proofs.YtfkeelccnomjkaaDoorW.PrintLast Go.Proofs.YtfkeelccnomjkaaDoorW.PrintMore Go.Proofs.YtfkeelccnomjkaaDoor.M
set_option linter.unusedVariables false
set_option linter.unusedSimpArgs false
theorem below_grow0 (w : World) (os : Array Obj) : Below w.heap.size w (grow w os) := ⟨rfl, rfl, rfl, by simp, fun k hk => heap_grow_old _ _ hk⟩
def SortPost (base : Nat) (v : Value) (xs : List Int) (W : World) (e : Ending) (w' : World) : Prop :=
  e = .returned (.tuple #[]) ∧ Kd.R (Kd.int .i64) 3 w' base (fun _ => True) v (xs.mergeSort fun x y => decide (x ≤ y)) ∧ ∀ w0, Below base w0 W → base ≤ W.heap.size → Below base w0 w'
theorem sort_R (base : Nat) (v : Value) (xs : List Int) (W : World) (hR : Kd.R (Kd.int .i64) 3 W base (fun _ => True) v xs) (hsz : xs.length < 4611686018427387904) :
    Calls Tryd.prog 41 #[v] W (SortPost base v xs W) := by
  have hown := Kd.own_of_R hR
  by_cases hv : v = .slice none 0 0
  · subst hv
    have hx : xs = [] := by
      rcases hown.2 with ⟨_, h⟩ | ⟨g, cap, cur, h, _⟩
      · cases xs with
        | nil => rfl
        | cons x xs => exact absurd h (by simp [encs])
      · cases h
    subst hx
    refine (AnyM.slices_Sort_int_none Tryd.sortI41 none 0 W).mono ?_
    rintro e w' ⟨rfl, rfl⟩
    exact ⟨rfl, by simpa using hR, fun w0 h _ => h⟩
  · obtain ⟨g, cap, rfl, hb, hlt, h1, h2, h3, hH⟩ := Lib.holds_of_ownsRow (zs := xs) (enc := Value.int .i64) hown hv
    refine (AnyM.slices_Sort_int Tryd.sortI41 g 0 cap xs W hH hlt hsz).mono ?_
    rintro e w' ⟨rfl, n, os, rfl⟩
    have hl : (xs.mergeSort fun x y => decide (x ≤ y)).length = xs.length := by simp
    have ho := Lib.ownsRow_putRow (q := n) (k := xs.length) (ys := xs.mergeSort fun x y => decide (x ≤ y)) hown hl (Nat.le_refl _)
    have e1 : (xs.mergeSort fun x y => decide (x ≤ y)).take xs.length = xs.mergeSort fun x y => decide (x ≤ y) := List.take_of_length_le (by omega)
    rw [e1] at ho
    refine ⟨rfl, ?_, fun w0 h hB => ?_⟩
    · have hr : Kd.R (Kd.int .i64) 3 (putRow (Value.int .i64) (Sort.ahead W n) g 0 (xs.mergeSort fun x y => decide (x ≤ y)).toArray) base (fun _ => True) (.slice (some ⟨g, 0, none⟩) xs.length cap) (xs.mergeSort fun x y => decide (x ≤ y)) :=
        Kd.R_of_own (enc := Value.int .i64) (h1 := fun _ => rfl) (by rw [hl]; exact ho) (fun _ _ => trivial)
      exact Kd.R_below hr (below_grow0 _ _)
    · have hs : (putRow (Value.int .i64) (Sort.ahead W n) g 0 (xs.mergeSort fun x y => decide (x ≤ y)).toArray).heap.size = W.heap.size := by simp [putRow, mapBlock, Sort.ahead]
      exact (Lib.below_putRow h hb).trans ((below_grow0 _ _).mono (by rw [hs]; exact hB))
/-- What sorting leaves of what rises already. -/
theorem sort_eq {xs ys : List Int} (hp : xs.Perm ys) (hr : ys.Pairwise (· < ·)) : (xs.mergeSort fun x y => decide (x ≤ y)) = ys := by
  have h1 : (xs.mergeSort fun x y => decide (x ≤ y)).Pairwise (fun x y => decide (x ≤ y) = true) := List.pairwise_mergeSort (fun a b c h1 h2 => by simp only [decide_eq_true_eq] at *; omega) (fun a b => by simp only [Bool.or_eq_true, decide_eq_true_eq]; omega) xs
  refine List.Perm.eq_of_pairwise (le := fun x y => decide (x ≤ y) = true) (fun a b _ _ h1 h2 => by simp only [decide_eq_true_eq] at *; omega) h1 (hr.imp (fun {a b} h => by simp only [decide_eq_true_eq]; omega)) ((List.mergeSort_perm _ _).trans hp)
end Go.Proofs.YtfkeelccnomjkaaDoor.P
