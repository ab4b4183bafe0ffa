/- A map's keys that are ints, and lists of ints in strict order: plain lemmas; nothing of the program is named. -/
import Derived.Test.YtfkeelccnomjkaaDoorMapLib
import Derived.Lib.SlKeysI
import Derived.Maps.Range
namespace Go.Proofs.YtfkeelccnomjkaaDoor.M
open Go.MapKept Go.ChangeMaps Go.RowKit
open Go.Maps (Keyed)
set_option linter.unusedVariables false

section
variable {P : Program} {k : TypeId} {w : World} {b n : Nat} {f : Value → Option Value}
end

/-- Ints in strict order. -/
def RisI (l : List Int) : Prop := l.Pairwise (· < ·)
/-- An int put among ints in order, unless it is there. -/
def putI : List Int → Int → List Int
  | [], s => [s]
  | a :: l, s => if s < a then s :: a :: l else if s = a then a :: l else a :: putI l s
end Go.Proofs.YtfkeelccnomjkaaDoor.M
