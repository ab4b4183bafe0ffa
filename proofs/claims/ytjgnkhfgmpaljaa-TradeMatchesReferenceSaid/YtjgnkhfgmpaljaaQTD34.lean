/- Lemmas, readings of functions as plain Lean functions and contracts of functions of the program, for the claimed theorem; each one's conditions stand in its statement. -/
import Derived.SizedLaws
import Derived.ChangeSlices
namespace Go.Proofs.YtjgnkhfgmpaljaaW.PrintWords
open Go.ChangeShapes Go.WideShapes
end Go.Proofs.YtjgnkhfgmpaljaaW.PrintWords
