/-
  DERIVED. GIVEN WITH THE SEED: THE CARDS: each row of YtfkeelccnomjkaaDoorRows.lean that lists a variable, with what it lists TIED to the program's text (the seventh form; the later family's looks); each row that meets fmt, with fmt's text TOLD by the authors' own Lean function (tested against real Go, not proved from fmt's source: count such statements apart). THE CARD IS WHAT COUNTS. Prove the row's statement (the work); the ties are given (YtfkeelccnomjkaaDoorTie.lean); close each card by the builder's one call (the guide's Derived/Test/ToyasCard.lean, 'card_holds'). Laid BY PROGRAM, IN A SANDBOX (cutbox-door.mjs). By AI agents, Wed Nov 11 2026. No macro, syntax, notation, axiom, sorry.
-/
import Derived.Test.YtfkeelccnomjkaaDoorRows
import GoSem.ClaimSeven
namespace Go.Proofs.YtfkeelccnomjkaaDoor
namespace Rows

/-- THE TIED CARD OF 'cohousinglaw22.LotteryMatchesReference'. -/
def lotteryMatchesReferenceCard : Claim7 := { stood := { row := lotteryMatchesReferenceRow, standIns := [], harness := (true, "43293c79f1efbfd401d7b98b0361ed2931079bd92a4fb9e8703519b964bf532e"), looks := false }, kinds := [], alts := [], laidByText := true, laidKinds := [.data, .data, .data], laidTests := true, laidLooks := .later }
def LotteryMatchesReferenceCardSaid : Prop := Claim7.holds Tryd.pinned (.plain (OpenSpec.ofChange lotteryMatchesReferenceSpec)) lotteryMatchesReferenceCard

/-- THE TIED CARD OF 'cohousinglaw22.LotteryRecovers'. -/
def lotteryRecoversCard : Claim7 := { stood := { row := lotteryRecoversRow, standIns := [], harness := (true, "43293c79f1efbfd401d7b98b0361ed2931079bd92a4fb9e8703519b964bf532e"), looks := false }, kinds := [], alts := [], laidByText := true, laidKinds := [.data, .data, .data], laidTests := true, laidLooks := .later }
def LotteryRecoversCardSaid : Prop := Claim7.holds Tryd.pinned (.plain (OpenSpec.ofChange lotteryRecoversSpec)) lotteryRecoversCard

/-- THE TIED CARD OF 'cohousinglaw22.LotterySecret'. -/
def lotterySecretCard : Claim7 := { stood := { row := lotterySecretRow, standIns := [], harness := (true, "43293c79f1efbfd401d7b98b0361ed2931079bd92a4fb9e8703519b964bf532e"), looks := false }, kinds := [], alts := [], laidByText := true, laidKinds := [.data, .data, .data], laidTests := true, laidLooks := .later }
def LotterySecretCardSaid : Prop := Claim7.holds Tryd.pinned (.plain (OpenSpec.ofChange lotterySecretSpec)) lotterySecretCard

/-- THE TIED CARD OF 'cohousinglaw22.LotteryHonest'. -/
def lotteryHonestCard : Claim7 := { stood := { row := lotteryHonestRow, standIns := [], harness := (true, "43293c79f1efbfd401d7b98b0361ed2931079bd92a4fb9e8703519b964bf532e"), looks := false }, kinds := [], alts := [], laidByText := true, laidKinds := [.data, .data, .data], laidTests := true, laidLooks := .later }
def LotteryHonestCardSaid : Prop := Claim7.holds Tryd.pinned (.plain (OpenSpec.ofChange lotteryHonestSpec)) lotteryHonestCard

/-- THE TIED CARD OF 'cohousinglaw22.LotteryCheats'. -/
def lotteryCheatsCard : Claim7 := { stood := { row := lotteryCheatsRow, standIns := [], harness := (true, "43293c79f1efbfd401d7b98b0361ed2931079bd92a4fb9e8703519b964bf532e"), looks := false }, kinds := [], alts := [], laidByText := true, laidKinds := [.data, .data, .data], laidTests := true, laidLooks := .later }
def LotteryCheatsCardSaid : Prop := Claim7.holds Tryd.pinned (.plain (OpenSpec.ofChange lotteryCheatsSpec)) lotteryCheatsCard

/-- THE TIED CARD OF 'cohousinglaw22.LotteryRefusals'. -/
def lotteryRefusalsCard : Claim7 := { stood := { row := lotteryRefusalsRow, standIns := [], harness := (true, "43293c79f1efbfd401d7b98b0361ed2931079bd92a4fb9e8703519b964bf532e"), looks := false }, kinds := [], alts := [], laidByText := true, laidKinds := [.data, .data, .data], laidTests := true, laidLooks := .later }
def LotteryRefusalsCardSaid : Prop := Claim7.holds Tryd.pinned (.plain (OpenSpec.ofChange lotteryRefusalsSpec)) lotteryRefusalsCard

/-- THE TIED CARD OF 'cohousinglaw22.LotteryLots'. -/
def lotteryLotsCard : Claim7 := { stood := { row := lotteryLotsRow, standIns := [], harness := (true, "43293c79f1efbfd401d7b98b0361ed2931079bd92a4fb9e8703519b964bf532e"), looks := false }, kinds := [], alts := [], laidByText := true, laidKinds := [.data, .data, .data], laidTests := true, laidLooks := .later }
def LotteryLotsCardSaid : Prop := Claim7.holds Tryd.pinned (.plain (OpenSpec.ofChange lotteryLotsSpec)) lotteryLotsCard

/-- THE SECOND FORM's CARD OF 'cohousinglaw22.LotteryMatchesReference'. -/
def lotteryMatchesReferenceUptoCard : Claim7 := { stood := { row := lotteryMatchesReferenceUptoRow, standIns := [], harness := (true, "43293c79f1efbfd401d7b98b0361ed2931079bd92a4fb9e8703519b964bf532e"), looks := false }, kinds := [], alts := [], laidByText := true, laidKinds := [.data, .data, .data], laidTests := true, laidLooks := .later }
def LotteryMatchesReferenceUptoCardSaid : Prop := Claim7.holds Tryd.pinned (.plain (OpenSpec.upto lotteryMatchesReferenceSpec)) lotteryMatchesReferenceUptoCard

/-- THE SECOND FORM's CARD OF 'cohousinglaw22.LotteryRecovers'. -/
def lotteryRecoversUptoCard : Claim7 := { stood := { row := lotteryRecoversUptoRow, standIns := [], harness := (true, "43293c79f1efbfd401d7b98b0361ed2931079bd92a4fb9e8703519b964bf532e"), looks := false }, kinds := [], alts := [], laidByText := true, laidKinds := [.data, .data, .data], laidTests := true, laidLooks := .later }
def LotteryRecoversUptoCardSaid : Prop := Claim7.holds Tryd.pinned (.plain (OpenSpec.upto lotteryRecoversSpec)) lotteryRecoversUptoCard

/-- THE SECOND FORM's CARD OF 'cohousinglaw22.LotterySecret'. -/
def lotterySecretUptoCard : Claim7 := { stood := { row := lotterySecretUptoRow, standIns := [], harness := (true, "43293c79f1efbfd401d7b98b0361ed2931079bd92a4fb9e8703519b964bf532e"), looks := false }, kinds := [], alts := [], laidByText := true, laidKinds := [.data, .data, .data], laidTests := true, laidLooks := .later }
def LotterySecretUptoCardSaid : Prop := Claim7.holds Tryd.pinned (.plain (OpenSpec.upto lotterySecretSpec)) lotterySecretUptoCard

/-- THE SECOND FORM's CARD OF 'cohousinglaw22.LotteryHonest'. -/
def lotteryHonestUptoCard : Claim7 := { stood := { row := lotteryHonestUptoRow, standIns := [], harness := (true, "43293c79f1efbfd401d7b98b0361ed2931079bd92a4fb9e8703519b964bf532e"), looks := false }, kinds := [], alts := [], laidByText := true, laidKinds := [.data, .data, .data], laidTests := true, laidLooks := .later }
def LotteryHonestUptoCardSaid : Prop := Claim7.holds Tryd.pinned (.plain (OpenSpec.upto lotteryHonestSpec)) lotteryHonestUptoCard

/-- THE SECOND FORM's CARD OF 'cohousinglaw22.LotteryCheats'. -/
def lotteryCheatsUptoCard : Claim7 := { stood := { row := lotteryCheatsUptoRow, standIns := [], harness := (true, "43293c79f1efbfd401d7b98b0361ed2931079bd92a4fb9e8703519b964bf532e"), looks := false }, kinds := [], alts := [], laidByText := true, laidKinds := [.data, .data, .data], laidTests := true, laidLooks := .later }
def LotteryCheatsUptoCardSaid : Prop := Claim7.holds Tryd.pinned (.plain (OpenSpec.upto lotteryCheatsSpec)) lotteryCheatsUptoCard

/-- THE SECOND FORM's CARD OF 'cohousinglaw22.LotteryRefusals'. -/
def lotteryRefusalsUptoCard : Claim7 := { stood := { row := lotteryRefusalsUptoRow, standIns := [], harness := (true, "43293c79f1efbfd401d7b98b0361ed2931079bd92a4fb9e8703519b964bf532e"), looks := false }, kinds := [], alts := [], laidByText := true, laidKinds := [.data, .data, .data], laidTests := true, laidLooks := .later }
def LotteryRefusalsUptoCardSaid : Prop := Claim7.holds Tryd.pinned (.plain (OpenSpec.upto lotteryRefusalsSpec)) lotteryRefusalsUptoCard

/-- THE SECOND FORM's CARD OF 'cohousinglaw22.LotteryLots'. -/
def lotteryLotsUptoCard : Claim7 := { stood := { row := lotteryLotsUptoRow, standIns := [], harness := (true, "43293c79f1efbfd401d7b98b0361ed2931079bd92a4fb9e8703519b964bf532e"), looks := false }, kinds := [], alts := [], laidByText := true, laidKinds := [.data, .data, .data], laidTests := true, laidLooks := .later }
def LotteryLotsUptoCardSaid : Prop := Claim7.holds Tryd.pinned (.plain (OpenSpec.upto lotteryLotsSpec)) lotteryLotsUptoCard
end Rows
end Go.Proofs.YtfkeelccnomjkaaDoor
