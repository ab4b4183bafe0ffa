/- Lemmas, readings of functions as plain Lean functions and contracts of functions of the program, for the claimed theorem; each one's conditions stand in its statement. -/
import Derived.Test.YtjgnkhfgmpaljaaQTD0
import Derived.IntWalk
namespace Go.Proofs.Ytjgnkhfgmpaljaa.M
set_option linter.unusedSimpArgs false
open Go.RowKit Go.Proofs.YtjgnkhfgmpaljaaW.PrintWords
set_option linter.unusedVariables false

theorem evPos {α:Type} {c:Prop} [Decidable c] {f g:Nat→Option α} {r:α} (hc:c) (h:Ev f r):Ev (fun k=>if c then f k else g k) r :=
  Ev.congr (fun k=>if_pos hc) h
theorem evNeg {α:Type} {c:Prop} [Decidable c] {f g:Nat→Option α} {r:α} (hc:¬ c) (h:Ev g r):Ev (fun k=>if c then f k else g k) r :=
  Ev.congr (fun k=>if_neg hc) h
theorem evIte {α:Type} {c:Prop} [Decidable c] {f g:Nat→Option α} {r:α} (h1:c→Ev f r) (h2:¬ c→Ev g r):Ev (fun k=>if c then f k else g k) r:=by
  by_cases hc:c
  · exact evPos hc (h1 hc)
  · exact evNeg hc (h2 hc)
/-- What does not hang on the rounds, bound. -/
theorem evSome {α β:Type} {a:α} {g:Option α} {f:Nat→α→Option β} {r:β} (h:g=some a) (k:Ev (fun n=>f n a) r):Ev (fun n=>g.bind (f n)) r :=
  Ev.congr (fun n=>by rw [h,Option.bind_some]) k
theorem evEq {α:Type} {f:Nat→Option α} {r r':α} (h:Ev f r) (e:r=r'):Ev f r':=e ▸ h
theorem wrap_succ {i n:Nat} (h:i < n) (hn:n≤9223372036854775807):wrap64 ((i:Int) + 1)=((i + 1:Nat):Int):=by
  rw [Go.IntWalk.wrap64_in _ (by omega)];rfl
end Go.Proofs.Ytjgnkhfgmpaljaa.M
