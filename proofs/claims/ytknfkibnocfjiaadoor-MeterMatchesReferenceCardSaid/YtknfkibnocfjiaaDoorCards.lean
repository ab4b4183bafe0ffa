/-
  DERIVED. GIVEN WITH THE SEED: THE CARDS: each row of YtknfkibnocfjiaaDoorRows.lean that lists a variable, with what it lists TIED to the program's text (the seventh form; the later family's looks); each row that meets fmt, with fmt's text TOLD by the authors' own Lean function (tested against real Go, not proved from fmt's source: count such statements apart). THE CARD IS WHAT COUNTS. Prove the row's statement (the work); the ties are given (YtknfkibnocfjiaaDoorTie.lean); close each card by the builder's one call (the guide's Derived/Test/ToyasCard.lean, 'card_holds'). Laid BY PROGRAM, IN A SANDBOX (cutbox-door.mjs). By AI agents, Wed Nov 11 2026. No macro, syntax, notation, axiom, sorry.
-/
import Derived.Test.YtknfkibnocfjiaaDoorRows
import GoSem.ClaimSeven
namespace Go.Proofs.YtknfkibnocfjiaaDoor
namespace Rows

/-- THE TIED CARD OF 'cohousinglaw27.MeterMatchesReference'. -/
def meterMatchesReferenceCard : Claim7 := { stood := { row := meterMatchesReferenceRow, standIns := [], harness := (true, "22afe0b40ac447cb22d66aba4b8f2d126cf49471aaefc8dfe40058ad0035446d"), looks := false }, kinds := [], alts := [], laidByText := true, laidKinds := [.data], laidTests := true, laidLooks := .later }
def MeterMatchesReferenceCardSaid : Prop := Claim7.holds Tryd.pinned (.plain (OpenSpec.ofChange meterMatchesReferenceSpec)) meterMatchesReferenceCard

/-- THE TIED CARD OF 'cohousinglaw27.MeterCleans'. -/
def meterCleansCard : Claim7 := { stood := { row := meterCleansRow, standIns := [], harness := (true, "22afe0b40ac447cb22d66aba4b8f2d126cf49471aaefc8dfe40058ad0035446d"), looks := false }, kinds := [], alts := [], laidByText := true, laidKinds := [.data], laidTests := true, laidLooks := .later }
def MeterCleansCardSaid : Prop := Claim7.holds Tryd.pinned (.plain (OpenSpec.ofChange meterCleansSpec)) meterCleansCard

/-- THE TIED CARD OF 'cohousinglaw27.MeterTruth'. -/
def meterTruthCard : Claim7 := { stood := { row := meterTruthRow, standIns := [], harness := (true, "22afe0b40ac447cb22d66aba4b8f2d126cf49471aaefc8dfe40058ad0035446d"), looks := false }, kinds := [], alts := [], laidByText := true, laidKinds := [.data], laidTests := true, laidLooks := .later }
def MeterTruthCardSaid : Prop := Claim7.holds Tryd.pinned (.plain (OpenSpec.ofChange meterTruthSpec)) meterTruthCard

/-- THE TIED CARD OF 'cohousinglaw27.MeterTight'. -/
def meterTightCard : Claim7 := { stood := { row := meterTightRow, standIns := [], harness := (true, "22afe0b40ac447cb22d66aba4b8f2d126cf49471aaefc8dfe40058ad0035446d"), looks := false }, kinds := [], alts := [], laidByText := true, laidKinds := [.data], laidTests := true, laidLooks := .later }
def MeterTightCardSaid : Prop := Claim7.holds Tryd.pinned (.plain (OpenSpec.ofChange meterTightSpec)) meterTightCard

/-- THE TIED CARD OF 'cohousinglaw27.MeterNarrows'. -/
def meterNarrowsCard : Claim7 := { stood := { row := meterNarrowsRow, standIns := [], harness := (true, "22afe0b40ac447cb22d66aba4b8f2d126cf49471aaefc8dfe40058ad0035446d"), looks := false }, kinds := [], alts := [], laidByText := true, laidKinds := [.data], laidTests := true, laidLooks := .later }
def MeterNarrowsCardSaid : Prop := Claim7.holds Tryd.pinned (.plain (OpenSpec.ofChange meterNarrowsSpec)) meterNarrowsCard

/-- THE TIED CARD OF 'cohousinglaw27.MeterMore'. -/
def meterMoreCard : Claim7 := { stood := { row := meterMoreRow, standIns := [], harness := (true, "22afe0b40ac447cb22d66aba4b8f2d126cf49471aaefc8dfe40058ad0035446d"), looks := false }, kinds := [], alts := [], laidByText := true, laidKinds := [.data], laidTests := true, laidLooks := .later }
def MeterMoreCardSaid : Prop := Claim7.holds Tryd.pinned (.plain (OpenSpec.ofChange meterMoreSpec)) meterMoreCard

/-- THE TIED CARD OF 'cohousinglaw27.MeterSeveral'. -/
def meterSeveralCard : Claim7 := { stood := { row := meterSeveralRow, standIns := [], harness := (true, "22afe0b40ac447cb22d66aba4b8f2d126cf49471aaefc8dfe40058ad0035446d"), looks := false }, kinds := [], alts := [], laidByText := true, laidKinds := [.data], laidTests := true, laidLooks := .later }
def MeterSeveralCardSaid : Prop := Claim7.holds Tryd.pinned (.plain (OpenSpec.ofChange meterSeveralSpec)) meterSeveralCard

/-- THE TIED CARD OF 'cohousinglaw27.MeterKnowledge'. -/
def meterKnowledgeCard : Claim7 := { stood := { row := meterKnowledgeRow, standIns := [], harness := (true, "22afe0b40ac447cb22d66aba4b8f2d126cf49471aaefc8dfe40058ad0035446d"), looks := false }, kinds := [], alts := [], laidByText := true, laidKinds := [.data], laidTests := true, laidLooks := .later }
def MeterKnowledgeCardSaid : Prop := Claim7.holds Tryd.pinned (.plain (OpenSpec.ofChange meterKnowledgeSpec)) meterKnowledgeCard

/-- THE SECOND FORM's CARD OF 'cohousinglaw27.MeterMatchesReference'. -/
def meterMatchesReferenceUptoCard : Claim7 := { stood := { row := meterMatchesReferenceUptoRow, standIns := [], harness := (true, "22afe0b40ac447cb22d66aba4b8f2d126cf49471aaefc8dfe40058ad0035446d"), looks := false }, kinds := [], alts := [], laidByText := true, laidKinds := [.data], laidTests := true, laidLooks := .later }
def MeterMatchesReferenceUptoCardSaid : Prop := Claim7.holds Tryd.pinned (.plain (OpenSpec.upto meterMatchesReferenceSpec)) meterMatchesReferenceUptoCard

/-- THE SECOND FORM's CARD OF 'cohousinglaw27.MeterCleans'. -/
def meterCleansUptoCard : Claim7 := { stood := { row := meterCleansUptoRow, standIns := [], harness := (true, "22afe0b40ac447cb22d66aba4b8f2d126cf49471aaefc8dfe40058ad0035446d"), looks := false }, kinds := [], alts := [], laidByText := true, laidKinds := [.data], laidTests := true, laidLooks := .later }
def MeterCleansUptoCardSaid : Prop := Claim7.holds Tryd.pinned (.plain (OpenSpec.upto meterCleansSpec)) meterCleansUptoCard

/-- THE SECOND FORM's CARD OF 'cohousinglaw27.MeterTruth'. -/
def meterTruthUptoCard : Claim7 := { stood := { row := meterTruthUptoRow, standIns := [], harness := (true, "22afe0b40ac447cb22d66aba4b8f2d126cf49471aaefc8dfe40058ad0035446d"), looks := false }, kinds := [], alts := [], laidByText := true, laidKinds := [.data], laidTests := true, laidLooks := .later }
def MeterTruthUptoCardSaid : Prop := Claim7.holds Tryd.pinned (.plain (OpenSpec.upto meterTruthSpec)) meterTruthUptoCard

/-- THE SECOND FORM's CARD OF 'cohousinglaw27.MeterTight'. -/
def meterTightUptoCard : Claim7 := { stood := { row := meterTightUptoRow, standIns := [], harness := (true, "22afe0b40ac447cb22d66aba4b8f2d126cf49471aaefc8dfe40058ad0035446d"), looks := false }, kinds := [], alts := [], laidByText := true, laidKinds := [.data], laidTests := true, laidLooks := .later }
def MeterTightUptoCardSaid : Prop := Claim7.holds Tryd.pinned (.plain (OpenSpec.upto meterTightSpec)) meterTightUptoCard

/-- THE SECOND FORM's CARD OF 'cohousinglaw27.MeterNarrows'. -/
def meterNarrowsUptoCard : Claim7 := { stood := { row := meterNarrowsUptoRow, standIns := [], harness := (true, "22afe0b40ac447cb22d66aba4b8f2d126cf49471aaefc8dfe40058ad0035446d"), looks := false }, kinds := [], alts := [], laidByText := true, laidKinds := [.data], laidTests := true, laidLooks := .later }
def MeterNarrowsUptoCardSaid : Prop := Claim7.holds Tryd.pinned (.plain (OpenSpec.upto meterNarrowsSpec)) meterNarrowsUptoCard

/-- THE SECOND FORM's CARD OF 'cohousinglaw27.MeterMore'. -/
def meterMoreUptoCard : Claim7 := { stood := { row := meterMoreUptoRow, standIns := [], harness := (true, "22afe0b40ac447cb22d66aba4b8f2d126cf49471aaefc8dfe40058ad0035446d"), looks := false }, kinds := [], alts := [], laidByText := true, laidKinds := [.data], laidTests := true, laidLooks := .later }
def MeterMoreUptoCardSaid : Prop := Claim7.holds Tryd.pinned (.plain (OpenSpec.upto meterMoreSpec)) meterMoreUptoCard

/-- THE SECOND FORM's CARD OF 'cohousinglaw27.MeterSeveral'. -/
def meterSeveralUptoCard : Claim7 := { stood := { row := meterSeveralUptoRow, standIns := [], harness := (true, "22afe0b40ac447cb22d66aba4b8f2d126cf49471aaefc8dfe40058ad0035446d"), looks := false }, kinds := [], alts := [], laidByText := true, laidKinds := [.data], laidTests := true, laidLooks := .later }
def MeterSeveralUptoCardSaid : Prop := Claim7.holds Tryd.pinned (.plain (OpenSpec.upto meterSeveralSpec)) meterSeveralUptoCard

/-- THE SECOND FORM's CARD OF 'cohousinglaw27.MeterKnowledge'. -/
def meterKnowledgeUptoCard : Claim7 := { stood := { row := meterKnowledgeUptoRow, standIns := [], harness := (true, "22afe0b40ac447cb22d66aba4b8f2d126cf49471aaefc8dfe40058ad0035446d"), looks := false }, kinds := [], alts := [], laidByText := true, laidKinds := [.data], laidTests := true, laidLooks := .later }
def MeterKnowledgeUptoCardSaid : Prop := Claim7.holds Tryd.pinned (.plain (OpenSpec.upto meterKnowledgeSpec)) meterKnowledgeUptoCard
end Rows
end Go.Proofs.YtknfkibnocfjiaaDoor
