/- Small laws on 'from some number of rounds on' (the print's Ev), and on reading lists at an index. Plain lemmas. -/
import Derived.Test.YtfkeelccnomjkaaDoorWWords
import Derived.IntWalk
namespace Go.Proofs.YtfkeelccnomjkaaDoor.M
open Go.RowKit Go.Proofs.YtfkeelccnomjkaaDoorW.PrintWords
set_option linter.unusedVariables false

theorem evPos {α : Type} {c : Prop} [Decidable c] {f g : Nat → Option α} {r : α} (hc : c) (h : Ev f r) : Ev (fun k => if c then f k else g k) r :=
  Ev.congr (fun k => if_pos hc) h
theorem evNeg {α : Type} {c : Prop} [Decidable c] {f g : Nat → Option α} {r : α} (hc : ¬ c) (h : Ev g r) : Ev (fun k => if c then f k else g k) r :=
  Ev.congr (fun k => if_neg hc) h
theorem evIte {α : Type} {c : Prop} [Decidable c] {f g : Nat → Option α} {r : α} (h1 : c → Ev f r) (h2 : ¬ c → Ev g r) : Ev (fun k => if c then f k else g k) r := by
  by_cases hc : c
  · exact evPos hc (h1 hc)
  · exact evNeg hc (h2 hc)
/-- What does not hang on the rounds, bound. -/
theorem evSome {α β : Type} {a : α} {g : Option α} {f : Nat → α → Option β} {r : β} (h : g = some a) (k : Ev (fun n => f n a) r) : Ev (fun n => g.bind (f n)) r :=
  Ev.congr (fun n => by rw [h, Option.bind_some]) k
theorem evEq {α : Type} {f : Nat → Option α} {r r' : α} (h : Ev f r) (e : r = r') : Ev f r' := e ▸ h
theorem wrap_succ {i n : Nat} (h : i < n) (hn : n ≤ 9223372036854775807) : wrap64 ((i : Int) + 1) = ((i + 1 : Nat) : Int) := by
  rw [Go.IntWalk.wrap64_in _ (by omega)]; rfl
theorem rdOf_get {α : Type} (d : α) {l : List α} {i : Nat} (h : i < l.length) : rdOf d l (i : Int) = l[i] := by
  unfold rdOf
  rw [Int.toNat_natCast, List.getD_eq_getElem?_getD, List.getElem?_eq_getElem h]
  rfl
theorem exists_first (p : Nat → Prop) (j : Nat) (h : p j) : ∃ i, i ≤ j ∧ p i ∧ ∀ m, m < i → ¬ p m := by
  induction j using Nat.strongRecOn with
  | ind j ih =>
    by_cases hm : ∃ m, m < j ∧ p m
    · obtain ⟨m, h1, h2⟩ := hm
      obtain ⟨i, h3, h4⟩ := ih m h1 h2
      exact ⟨i, by omega, h4⟩
    · exact ⟨j, Nat.le_refl _, h, fun m h1 h2 => hm ⟨m, h1, h2⟩⟩
end Go.Proofs.YtfkeelccnomjkaaDoor.M
