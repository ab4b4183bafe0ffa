/- some: shares of a list, chosen by integers: what it computes, and that it computes it. -/
import Derived.Test.YtfkeelccnomjkaaDoorGRecover
import Derived.Test.YtfkeelccnomjkaaDoorPRA
import Derived.Deep.RegionHeld3
import Derived.Deep.RegionLawGrows
namespace Go.Proofs.YtfkeelccnomjkaaDoor.P
open Go.RowKit Go.Proofs.YtfkeelccnomjkaaDoorW.PrintWords Go.Proofs.YtfkeelccnomjkaaDoorW.PrintLast Go.Proofs.YtfkeelccnomjkaaDoorW.PrintMore Go.Proofs.YtfkeelccnomjkaaDoor.M
set_option linter.unusedVariables false
set_option linter.unusedSimpArgs false
def kAt (picks : List Int) (i n : Nat) : Nat := if i < picks.length then (rd picks (i : Int) % (n : Int)).toNat else 0
def someGo (least : Int) (picks : List Int) : Nat → Nat → List S47 → List S47 → List S47
  | 0, _, _, out => out
  | n + 1, i, rest, out => if (out.length : Int) < least ∨ i < picks.length then someGo least picks n (i + 1) (rest.eraseIdx (kAt picks i rest.length)) (out ++ [rd_T47 rest (kAt picks i rest.length : Int)]) else out
def someL (l : List S47) (least : Int) (picks : List Int) : List S47 := someGo least picks l.length 0 l []
def cohousinglaw22_some.f (l : List S47) (least : Int) (picks : List Int) : Option (List S47) := if l.length ≤ 1000 then some (someL l least picks) else none
theorem R_of_own {w : World} {base n : Nat} {v : Value} {xs ys : List S47} {cx cy : List Value} (hx : Reps (k47.K w) 2 xs cx) (hy : Reps (k47.K w) 2 ys cy) (hn : n = (xs ++ ys).length) (w' : World) (ho : w'.ownsRow base 47 2 v n (cx ++ cy)) :
    Kd.R k47 47 w' base (fun _ => True) v (xs ++ ys) := by
  subst hn
  have hk : ∀ p cs, k47.K w p cs → k47.M w' base (fun k => True ∧ some k ≠ v.ownBlock) p cs := fun p cs h => by
    obtain rfl := k47_open h
    exact k47_mkM _ _ _ _
  exact ⟨fun _ _ => trivial, cx ++ cy, ho, Kd.reps_append (hx.imp_ hk) (hy.imp_ hk)⟩
end Go.Proofs.YtfkeelccnomjkaaDoor.P
