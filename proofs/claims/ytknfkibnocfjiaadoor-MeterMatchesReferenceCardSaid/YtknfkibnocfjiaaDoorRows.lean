/-
  NARROWER THAN 'FOR EVERY INPUT', by the rows' own cells (each row's printed sentence says how): MeterMatchesReference: laid · MeterCleans: laid · MeterTruth: laid · MeterTight: laid · MeterNarrows: laid · MeterMore: laid · MeterSeveral: laid · MeterKnowledge: laid.
  DERIVED. THE GIVEN ROWS OF THIS SEAT. 8 by the template 'for every input the law returns true; each argument reads behind the call as it read before'; 0 by the template 'total and deterministic' (their statements: YtknfkibnocfjiaaDoorTotals.lean).
  GIVEN WITH THE SEED: the statements are not yours to turn. If you find one false, say at which input.
  Laid BY PROGRAM, IN A SANDBOX (cutbox-rows.mjs): the forced cells as the released guide's own fill.sh prints them over the translation e9ee77eb5b756aba… (all of the seat's roots in one cut). By AI agents, Wed Nov 11 2026. No macro, syntax, notation, axiom, sorry.
-/
import Derived.Test.YtknfkibnocfjiaaDoorChecked
import GoSem.Claim
import GoSem.ClaimJoined
import GoSem.ClaimMapViews
import Derived.JoinedTies
import Derived.KernelRfl
namespace Go.Proofs.YtknfkibnocfjiaaDoor
/- THE CELL 'sum', in the pinned program and in every row, IS THE sha256 OF THE DUMP (.gsa) THAT YtknfkibnocfjiaaDoorProg.lean LOADS. Nothing in Lean hashes anything: it is a label: what it is worth is what the hold of that sum in a sandbox is worth. -/
noncomputable def Tryd.pinned : Pinned := { name := "ytknfkibnocfjiaadoor", sum := "e9ee77eb5b756aba3727ddfa4a610b8f508358b0083d666367965646d213149d", checked := Tryd.checked }
namespace Rows
def none {H : Type} : Left H := { results := [], args := [] }

/- WHAT THE LISTED PACKAGE-LEVEL VARIABLES READ AS WHEN THE CALL BEGINS. Each datum BY PROGRAM (the guide's laid-datum.mjs) off the statement by which the dump's own 'gosem.cut.vars' lays the variable. In a bare row this is a premise. The card (YtknfkibnocfjiaaDoorCards.lean) ties it to the program's text. -/
def laid_cohousing_meter_powers {H : Type} : DataW H := .agg [.lit (.int .i64 1), .lit (.int .i64 10), .lit (.int .i64 100), .lit (.int .i64 1000), .lit (.int .i64 10000), .lit (.int .i64 100000), .lit (.int .i64 1000000)]

/-- 'cohousinglaw27.MeterMatchesReference': WHATEVER THE INPUT: true; the input reads as it did. -/
def meterMatchesReferenceSpec : ChangeSpec := { name := "meterMatchesReference", fn := fun _ => fun
  | [d1, d2, d3, d4, d5] => { results := [.lit (.bool true)], args := [d1, d2, d3, d4, d5] }
  | _ => none }
def meterMatchesReferenceRow : OpenClaim := { program := "ytknfkibnocfjiaadoor", sum := "e9ee77eb5b756aba3727ddfa4a610b8f508358b0083d666367965646d213149d", func := "cohousing/cohousinglaw27.MeterMatchesReference", spec := "meterMatchesReference", unfollowed := true, recurses := true, named := ["cohousing/meter.powers"], plainKeys := false, apart := false, laid := [("cohousing/meter.powers", laid_cohousing_meter_powers)] }
def MeterMatchesReferenceSaid : Prop := meterMatchesReferenceRow.holds Tryd.pinned (OpenSpec.ofChange meterMatchesReferenceSpec)

/-- ITS FALSE NEIGHBOUR: 'it returns false'. Refute it at one input. -/
def meterMatchesReferenceWrong : ChangeSpec := { name := "meterMatchesReference", fn := fun _ => fun
  | [d1, d2, d3, d4, d5] => { results := [.lit (.bool false)], args := [d1, d2, d3, d4, d5] }
  | _ => none }
def MeterMatchesReferenceWrongFalsely : Prop := meterMatchesReferenceRow.holds Tryd.pinned (OpenSpec.ofChange meterMatchesReferenceWrong)

/-- 'cohousinglaw27.MeterCleans': WHATEVER THE INPUT: true; the input reads as it did. -/
def meterCleansSpec : ChangeSpec := { name := "meterCleans", fn := fun _ => fun
  | [d1, d2, d3] => { results := [.lit (.bool true)], args := [d1, d2, d3] }
  | _ => none }
def meterCleansRow : OpenClaim := { program := "ytknfkibnocfjiaadoor", sum := "e9ee77eb5b756aba3727ddfa4a610b8f508358b0083d666367965646d213149d", func := "cohousing/cohousinglaw27.MeterCleans", spec := "meterCleans", unfollowed := true, recurses := true, named := ["cohousing/meter.powers"], plainKeys := false, apart := false, laid := [("cohousing/meter.powers", laid_cohousing_meter_powers)] }
def MeterCleansSaid : Prop := meterCleansRow.holds Tryd.pinned (OpenSpec.ofChange meterCleansSpec)

/-- ITS FALSE NEIGHBOUR: 'it returns false'. Refute it at one input. -/
def meterCleansWrong : ChangeSpec := { name := "meterCleans", fn := fun _ => fun
  | [d1, d2, d3] => { results := [.lit (.bool false)], args := [d1, d2, d3] }
  | _ => none }
def MeterCleansWrongFalsely : Prop := meterCleansRow.holds Tryd.pinned (OpenSpec.ofChange meterCleansWrong)

/-- 'cohousinglaw27.MeterTruth': WHATEVER THE INPUT: true; the input reads as it did. -/
def meterTruthSpec : ChangeSpec := { name := "meterTruth", fn := fun _ => fun
  | [d1, d2, d3, d4, d5, d6] => { results := [.lit (.bool true)], args := [d1, d2, d3, d4, d5, d6] }
  | _ => none }
def meterTruthRow : OpenClaim := { program := "ytknfkibnocfjiaadoor", sum := "e9ee77eb5b756aba3727ddfa4a610b8f508358b0083d666367965646d213149d", func := "cohousing/cohousinglaw27.MeterTruth", spec := "meterTruth", unfollowed := true, recurses := true, named := ["cohousing/meter.powers"], plainKeys := false, apart := false, laid := [("cohousing/meter.powers", laid_cohousing_meter_powers)] }
def MeterTruthSaid : Prop := meterTruthRow.holds Tryd.pinned (OpenSpec.ofChange meterTruthSpec)

/-- ITS FALSE NEIGHBOUR: 'it returns false'. Refute it at one input. -/
def meterTruthWrong : ChangeSpec := { name := "meterTruth", fn := fun _ => fun
  | [d1, d2, d3, d4, d5, d6] => { results := [.lit (.bool false)], args := [d1, d2, d3, d4, d5, d6] }
  | _ => none }
def MeterTruthWrongFalsely : Prop := meterTruthRow.holds Tryd.pinned (OpenSpec.ofChange meterTruthWrong)

/-- 'cohousinglaw27.MeterTight': WHATEVER THE INPUT: true; the input reads as it did. -/
def meterTightSpec : ChangeSpec := { name := "meterTight", fn := fun _ => fun
  | [d1, d2, d3, d4, d5] => { results := [.lit (.bool true)], args := [d1, d2, d3, d4, d5] }
  | _ => none }
def meterTightRow : OpenClaim := { program := "ytknfkibnocfjiaadoor", sum := "e9ee77eb5b756aba3727ddfa4a610b8f508358b0083d666367965646d213149d", func := "cohousing/cohousinglaw27.MeterTight", spec := "meterTight", unfollowed := true, recurses := true, named := ["cohousing/meter.powers"], plainKeys := false, apart := false, laid := [("cohousing/meter.powers", laid_cohousing_meter_powers)] }
def MeterTightSaid : Prop := meterTightRow.holds Tryd.pinned (OpenSpec.ofChange meterTightSpec)

/-- ITS FALSE NEIGHBOUR: 'it returns false'. Refute it at one input. -/
def meterTightWrong : ChangeSpec := { name := "meterTight", fn := fun _ => fun
  | [d1, d2, d3, d4, d5] => { results := [.lit (.bool false)], args := [d1, d2, d3, d4, d5] }
  | _ => none }
def MeterTightWrongFalsely : Prop := meterTightRow.holds Tryd.pinned (OpenSpec.ofChange meterTightWrong)

/-- 'cohousinglaw27.MeterNarrows': WHATEVER THE INPUT: true; the input reads as it did. -/
def meterNarrowsSpec : ChangeSpec := { name := "meterNarrows", fn := fun _ => fun
  | [d1, d2, d3, d4, d5, d6, d7] => { results := [.lit (.bool true)], args := [d1, d2, d3, d4, d5, d6, d7] }
  | _ => none }
def meterNarrowsRow : OpenClaim := { program := "ytknfkibnocfjiaadoor", sum := "e9ee77eb5b756aba3727ddfa4a610b8f508358b0083d666367965646d213149d", func := "cohousing/cohousinglaw27.MeterNarrows", spec := "meterNarrows", unfollowed := true, recurses := true, named := ["cohousing/meter.powers"], plainKeys := false, apart := false, laid := [("cohousing/meter.powers", laid_cohousing_meter_powers)] }
def MeterNarrowsSaid : Prop := meterNarrowsRow.holds Tryd.pinned (OpenSpec.ofChange meterNarrowsSpec)

/-- ITS FALSE NEIGHBOUR: 'it returns false'. Refute it at one input. -/
def meterNarrowsWrong : ChangeSpec := { name := "meterNarrows", fn := fun _ => fun
  | [d1, d2, d3, d4, d5, d6, d7] => { results := [.lit (.bool false)], args := [d1, d2, d3, d4, d5, d6, d7] }
  | _ => none }
def MeterNarrowsWrongFalsely : Prop := meterNarrowsRow.holds Tryd.pinned (OpenSpec.ofChange meterNarrowsWrong)

/-- 'cohousinglaw27.MeterMore': WHATEVER THE INPUT: true; the input reads as it did. -/
def meterMoreSpec : ChangeSpec := { name := "meterMore", fn := fun _ => fun
  | [d1, d2, d3, d4, d5, d6] => { results := [.lit (.bool true)], args := [d1, d2, d3, d4, d5, d6] }
  | _ => none }
def meterMoreRow : OpenClaim := { program := "ytknfkibnocfjiaadoor", sum := "e9ee77eb5b756aba3727ddfa4a610b8f508358b0083d666367965646d213149d", func := "cohousing/cohousinglaw27.MeterMore", spec := "meterMore", unfollowed := true, recurses := true, named := ["cohousing/meter.powers"], plainKeys := false, apart := false, laid := [("cohousing/meter.powers", laid_cohousing_meter_powers)] }
def MeterMoreSaid : Prop := meterMoreRow.holds Tryd.pinned (OpenSpec.ofChange meterMoreSpec)

/-- ITS FALSE NEIGHBOUR: 'it returns false'. Refute it at one input. -/
def meterMoreWrong : ChangeSpec := { name := "meterMore", fn := fun _ => fun
  | [d1, d2, d3, d4, d5, d6] => { results := [.lit (.bool false)], args := [d1, d2, d3, d4, d5, d6] }
  | _ => none }
def MeterMoreWrongFalsely : Prop := meterMoreRow.holds Tryd.pinned (OpenSpec.ofChange meterMoreWrong)

/-- 'cohousinglaw27.MeterSeveral': WHATEVER THE INPUT: true; the input reads as it did. -/
def meterSeveralSpec : ChangeSpec := { name := "meterSeveral", fn := fun _ => fun
  | [d1, d2, d3, d4] => { results := [.lit (.bool true)], args := [d1, d2, d3, d4] }
  | _ => none }
def meterSeveralRow : OpenClaim := { program := "ytknfkibnocfjiaadoor", sum := "e9ee77eb5b756aba3727ddfa4a610b8f508358b0083d666367965646d213149d", func := "cohousing/cohousinglaw27.MeterSeveral", spec := "meterSeveral", unfollowed := true, recurses := true, named := ["cohousing/meter.powers"], plainKeys := false, apart := false, laid := [("cohousing/meter.powers", laid_cohousing_meter_powers)] }
def MeterSeveralSaid : Prop := meterSeveralRow.holds Tryd.pinned (OpenSpec.ofChange meterSeveralSpec)

/-- ITS FALSE NEIGHBOUR: 'it returns false'. Refute it at one input. -/
def meterSeveralWrong : ChangeSpec := { name := "meterSeveral", fn := fun _ => fun
  | [d1, d2, d3, d4] => { results := [.lit (.bool false)], args := [d1, d2, d3, d4] }
  | _ => none }
def MeterSeveralWrongFalsely : Prop := meterSeveralRow.holds Tryd.pinned (OpenSpec.ofChange meterSeveralWrong)

/-- 'cohousinglaw27.MeterKnowledge': WHATEVER THE INPUT: true; the input reads as it did. -/
def meterKnowledgeSpec : ChangeSpec := { name := "meterKnowledge", fn := fun _ => fun
  | [d1, d2, d3, d4] => { results := [.lit (.bool true)], args := [d1, d2, d3, d4] }
  | _ => none }
def meterKnowledgeRow : OpenClaim := { program := "ytknfkibnocfjiaadoor", sum := "e9ee77eb5b756aba3727ddfa4a610b8f508358b0083d666367965646d213149d", func := "cohousing/cohousinglaw27.MeterKnowledge", spec := "meterKnowledge", unfollowed := true, recurses := true, named := ["cohousing/meter.powers"], plainKeys := false, apart := false, laid := [("cohousing/meter.powers", laid_cohousing_meter_powers)] }
def MeterKnowledgeSaid : Prop := meterKnowledgeRow.holds Tryd.pinned (OpenSpec.ofChange meterKnowledgeSpec)

/-- ITS FALSE NEIGHBOUR: 'it returns false'. Refute it at one input. -/
def meterKnowledgeWrong : ChangeSpec := { name := "meterKnowledge", fn := fun _ => fun
  | [d1, d2, d3, d4] => { results := [.lit (.bool false)], args := [d1, d2, d3, d4] }
  | _ => none }
def MeterKnowledgeWrongFalsely : Prop := meterKnowledgeRow.holds Tryd.pinned (OpenSpec.ofChange meterKnowledgeWrong)

/- THE SECOND FORM. 'bulk': how many values and letters a reading holds, each counted each time it is reached (what is shared counts as often as it is met; a slice's spare places count too). A statement '..UptoSaid' is the law's where the arguments, and the package variables that the reading takes, are together of bulk at most 1048576: NARROWER than '..Said'. Prove '..Said' where nothing that the law and all that it calls make is longer than what came in: it says more and counts as full. Else prove '..UptoSaid'. A law counts once. -/
mutual
def uptoBulk {H : Type} : DataW H → Nat
  | .lit (.string bytes) => bytes.length + 1
  | .lit _ => 1
  | .nil => 1
  | .ptr d => uptoBulk d + 1
  | .slice elems spare => uptoBulkAll elems + uptoBulkAll spare + 1
  | .agg parts => uptoBulkAll parts + 1
  | .iface _ d => uptoBulk d + 1
  | .map entries => uptoBulkEntries entries + 1
  | .held _ => 1
def uptoBulkAll {H : Type} : List (DataW H) → Nat
  | [] => 0
  | d :: r => uptoBulk d + uptoBulkAll r
def uptoBulkEntries {H : Type} : List (Lit × DataW H) → Nat
  | [] => 0
  | x :: r => uptoBulkEntry x + uptoBulkEntries r
def uptoBulkEntry {H : Type} : Lit × DataW H → Nat
  | (.string bytes, d) => bytes.length + uptoBulk d + 1
  | (_, d) => uptoBulk d + 1
 end
def uptoSmall : (H : Type) → List (DataW H) → Bool := fun _ ds => decide (uptoBulkAll ds ≤ 1048576)
def OpenSpec.upto (s : _root_.Go.ChangeSpec) : _root_.Go.OpenSpec := { _root_.Go.OpenSpec.ofChange s with cond := some uptoSmall }

/-- 'cohousinglaw27.MeterMatchesReference', WHERE WHAT IT READS IS OF BULK AT MOST 1048576: true; the input reads as it did. -/
def meterMatchesReferenceUptoRow : OpenClaim := { program := "ytknfkibnocfjiaadoor", sum := "e9ee77eb5b756aba3727ddfa4a610b8f508358b0083d666367965646d213149d", func := "cohousing/cohousinglaw27.MeterMatchesReference", spec := "meterMatchesReference", unfollowed := true, recurses := true, named := ["cohousing/meter.powers"], plainKeys := false, apart := false, laid := [("cohousing/meter.powers", laid_cohousing_meter_powers)], narrowed := true }
def MeterMatchesReferenceUptoSaid : Prop := meterMatchesReferenceUptoRow.holds Tryd.pinned (OpenSpec.upto meterMatchesReferenceSpec)

/-- 'cohousinglaw27.MeterCleans', WHERE WHAT IT READS IS OF BULK AT MOST 1048576: true; the input reads as it did. -/
def meterCleansUptoRow : OpenClaim := { program := "ytknfkibnocfjiaadoor", sum := "e9ee77eb5b756aba3727ddfa4a610b8f508358b0083d666367965646d213149d", func := "cohousing/cohousinglaw27.MeterCleans", spec := "meterCleans", unfollowed := true, recurses := true, named := ["cohousing/meter.powers"], plainKeys := false, apart := false, laid := [("cohousing/meter.powers", laid_cohousing_meter_powers)], narrowed := true }
def MeterCleansUptoSaid : Prop := meterCleansUptoRow.holds Tryd.pinned (OpenSpec.upto meterCleansSpec)

/-- 'cohousinglaw27.MeterTruth', WHERE WHAT IT READS IS OF BULK AT MOST 1048576: true; the input reads as it did. -/
def meterTruthUptoRow : OpenClaim := { program := "ytknfkibnocfjiaadoor", sum := "e9ee77eb5b756aba3727ddfa4a610b8f508358b0083d666367965646d213149d", func := "cohousing/cohousinglaw27.MeterTruth", spec := "meterTruth", unfollowed := true, recurses := true, named := ["cohousing/meter.powers"], plainKeys := false, apart := false, laid := [("cohousing/meter.powers", laid_cohousing_meter_powers)], narrowed := true }
def MeterTruthUptoSaid : Prop := meterTruthUptoRow.holds Tryd.pinned (OpenSpec.upto meterTruthSpec)

/-- 'cohousinglaw27.MeterTight', WHERE WHAT IT READS IS OF BULK AT MOST 1048576: true; the input reads as it did. -/
def meterTightUptoRow : OpenClaim := { program := "ytknfkibnocfjiaadoor", sum := "e9ee77eb5b756aba3727ddfa4a610b8f508358b0083d666367965646d213149d", func := "cohousing/cohousinglaw27.MeterTight", spec := "meterTight", unfollowed := true, recurses := true, named := ["cohousing/meter.powers"], plainKeys := false, apart := false, laid := [("cohousing/meter.powers", laid_cohousing_meter_powers)], narrowed := true }
def MeterTightUptoSaid : Prop := meterTightUptoRow.holds Tryd.pinned (OpenSpec.upto meterTightSpec)

/-- 'cohousinglaw27.MeterNarrows', WHERE WHAT IT READS IS OF BULK AT MOST 1048576: true; the input reads as it did. -/
def meterNarrowsUptoRow : OpenClaim := { program := "ytknfkibnocfjiaadoor", sum := "e9ee77eb5b756aba3727ddfa4a610b8f508358b0083d666367965646d213149d", func := "cohousing/cohousinglaw27.MeterNarrows", spec := "meterNarrows", unfollowed := true, recurses := true, named := ["cohousing/meter.powers"], plainKeys := false, apart := false, laid := [("cohousing/meter.powers", laid_cohousing_meter_powers)], narrowed := true }
def MeterNarrowsUptoSaid : Prop := meterNarrowsUptoRow.holds Tryd.pinned (OpenSpec.upto meterNarrowsSpec)

/-- 'cohousinglaw27.MeterMore', WHERE WHAT IT READS IS OF BULK AT MOST 1048576: true; the input reads as it did. -/
def meterMoreUptoRow : OpenClaim := { program := "ytknfkibnocfjiaadoor", sum := "e9ee77eb5b756aba3727ddfa4a610b8f508358b0083d666367965646d213149d", func := "cohousing/cohousinglaw27.MeterMore", spec := "meterMore", unfollowed := true, recurses := true, named := ["cohousing/meter.powers"], plainKeys := false, apart := false, laid := [("cohousing/meter.powers", laid_cohousing_meter_powers)], narrowed := true }
def MeterMoreUptoSaid : Prop := meterMoreUptoRow.holds Tryd.pinned (OpenSpec.upto meterMoreSpec)

/-- 'cohousinglaw27.MeterSeveral', WHERE WHAT IT READS IS OF BULK AT MOST 1048576: true; the input reads as it did. -/
def meterSeveralUptoRow : OpenClaim := { program := "ytknfkibnocfjiaadoor", sum := "e9ee77eb5b756aba3727ddfa4a610b8f508358b0083d666367965646d213149d", func := "cohousing/cohousinglaw27.MeterSeveral", spec := "meterSeveral", unfollowed := true, recurses := true, named := ["cohousing/meter.powers"], plainKeys := false, apart := false, laid := [("cohousing/meter.powers", laid_cohousing_meter_powers)], narrowed := true }
def MeterSeveralUptoSaid : Prop := meterSeveralUptoRow.holds Tryd.pinned (OpenSpec.upto meterSeveralSpec)

/-- 'cohousinglaw27.MeterKnowledge', WHERE WHAT IT READS IS OF BULK AT MOST 1048576: true; the input reads as it did. -/
def meterKnowledgeUptoRow : OpenClaim := { program := "ytknfkibnocfjiaadoor", sum := "e9ee77eb5b756aba3727ddfa4a610b8f508358b0083d666367965646d213149d", func := "cohousing/cohousinglaw27.MeterKnowledge", spec := "meterKnowledge", unfollowed := true, recurses := true, named := ["cohousing/meter.powers"], plainKeys := false, apart := false, laid := [("cohousing/meter.powers", laid_cohousing_meter_powers)], narrowed := true }
def MeterKnowledgeUptoSaid : Prop := meterKnowledgeUptoRow.holds Tryd.pinned (OpenSpec.upto meterKnowledgeSpec)

end Rows
end Go.Proofs.YtknfkibnocfjiaaDoor
