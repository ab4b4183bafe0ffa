/-
  No cell of these rows narrows 'for every input' (looked for: loops, veiled, ifaces, maps, wideKeys, modest, calm, conditions, laid).
  DERIVED. THE GIVEN ROWS OF THIS SEAT. 13 by the template 'for every input the law returns true; each argument reads behind the call as it read before'; 0 by the template 'total and deterministic' (their statements: YtjgnkhfgmpaljaaTotals.lean).
  GIVEN WITH THE SEED: the statements are not yours to turn. If you find one false, say at which input.
  Laid BY PROGRAM, IN A SANDBOX (cutbox-rows.mjs): the forced cells as the released guide's own fill.sh prints them over the translation 0fa2e584495b178f… (all of the seat's roots in one cut). By AI agents, Wed Nov 11 2026. No macro, syntax, notation, axiom, sorry.
-/
import Derived.Test.YtjgnkhfgmpaljaaChecked
import GoSem.Claim
import GoSem.ClaimJoined
import GoSem.ClaimMapViews
import Derived.JoinedTies
import Derived.KernelRfl
namespace Go.Proofs.Ytjgnkhfgmpaljaa
/- THE CELL 'sum', in the pinned program and in every row, IS THE sha256 OF THE DUMP (.gsa) THAT YtjgnkhfgmpaljaaProg.lean LOADS. Nothing in Lean hashes anything: it is a label: what it is worth is what the hold of that sum in a sandbox is worth. -/
noncomputable def Try.pinned : Pinned := { name := "ytjgnkhfgmpaljaa", sum := "0fa2e584495b178f0b087a4d34913c6adddf1a8237bda756f54590381695f85e", checked := Try.checked }
namespace Rows
def none {H : Type} : Left H := { results := [], args := [] }

/-- 'cohousinglaw24.TradeMatchesReference': WHATEVER THE INPUT: true; the input reads as it did. -/
def tradeMatchesReferenceSpec : ChangeSpec := { name := "tradeMatchesReference", fn := fun _ => fun
  | [d1, d2] => { results := [.lit (.bool true)], args := [d1, d2] }
  | _ => none }
def tradeMatchesReferenceRow : OpenClaim := { program := "ytjgnkhfgmpaljaa", sum := "0fa2e584495b178f0b087a4d34913c6adddf1a8237bda756f54590381695f85e", func := "cohousing/cohousinglaw24.TradeMatchesReference", spec := "tradeMatchesReference", unfollowed := true, recurses := true, apart := false }
def TradeMatchesReferenceSaid : Prop := tradeMatchesReferenceRow.holds Try.pinned (OpenSpec.ofChange tradeMatchesReferenceSpec)

/-- ITS FALSE NEIGHBOUR: 'it returns false'. Refute it at one input. -/
def tradeMatchesReferenceWrong : ChangeSpec := { name := "tradeMatchesReference", fn := fun _ => fun
  | [d1, d2] => { results := [.lit (.bool false)], args := [d1, d2] }
  | _ => none }
def TradeMatchesReferenceWrongFalsely : Prop := tradeMatchesReferenceRow.holds Try.pinned (OpenSpec.ofChange tradeMatchesReferenceWrong)

/-- 'cohousinglaw24.TradeAllocates': WHATEVER THE INPUT: true; the input reads as it did. -/
def tradeAllocatesSpec : ChangeSpec := { name := "tradeAllocates", fn := fun _ => fun
  | [d1, d2] => { results := [.lit (.bool true)], args := [d1, d2] }
  | _ => none }
def tradeAllocatesRow : OpenClaim := { program := "ytjgnkhfgmpaljaa", sum := "0fa2e584495b178f0b087a4d34913c6adddf1a8237bda756f54590381695f85e", func := "cohousing/cohousinglaw24.TradeAllocates", spec := "tradeAllocates", unfollowed := true, recurses := true, apart := false }
def TradeAllocatesSaid : Prop := tradeAllocatesRow.holds Try.pinned (OpenSpec.ofChange tradeAllocatesSpec)

/-- ITS FALSE NEIGHBOUR: 'it returns false'. Refute it at one input. -/
def tradeAllocatesWrong : ChangeSpec := { name := "tradeAllocates", fn := fun _ => fun
  | [d1, d2] => { results := [.lit (.bool false)], args := [d1, d2] }
  | _ => none }
def TradeAllocatesWrongFalsely : Prop := tradeAllocatesRow.holds Try.pinned (OpenSpec.ofChange tradeAllocatesWrong)

/-- 'cohousinglaw24.TradeRings': WHATEVER THE INPUT: true; the input reads as it did. -/
def tradeRingsSpec : ChangeSpec := { name := "tradeRings", fn := fun _ => fun
  | [d1, d2] => { results := [.lit (.bool true)], args := [d1, d2] }
  | _ => none }
def tradeRingsRow : OpenClaim := { program := "ytjgnkhfgmpaljaa", sum := "0fa2e584495b178f0b087a4d34913c6adddf1a8237bda756f54590381695f85e", func := "cohousing/cohousinglaw24.TradeRings", spec := "tradeRings", unfollowed := true, recurses := true, apart := false }
def TradeRingsSaid : Prop := tradeRingsRow.holds Try.pinned (OpenSpec.ofChange tradeRingsSpec)

/-- ITS FALSE NEIGHBOUR: 'it returns false'. Refute it at one input. -/
def tradeRingsWrong : ChangeSpec := { name := "tradeRings", fn := fun _ => fun
  | [d1, d2] => { results := [.lit (.bool false)], args := [d1, d2] }
  | _ => none }
def TradeRingsWrongFalsely : Prop := tradeRingsRow.holds Try.pinned (OpenSpec.ofChange tradeRingsWrong)

/-- 'cohousinglaw24.TradeEfficient': WHATEVER THE INPUT: true; the input reads as it did. -/
def tradeEfficientSpec : ChangeSpec := { name := "tradeEfficient", fn := fun _ => fun
  | [d1, d2, d3] => { results := [.lit (.bool true)], args := [d1, d2, d3] }
  | _ => none }
def tradeEfficientRow : OpenClaim := { program := "ytjgnkhfgmpaljaa", sum := "0fa2e584495b178f0b087a4d34913c6adddf1a8237bda756f54590381695f85e", func := "cohousing/cohousinglaw24.TradeEfficient", spec := "tradeEfficient", unfollowed := true, recurses := true, apart := false }
def TradeEfficientSaid : Prop := tradeEfficientRow.holds Try.pinned (OpenSpec.ofChange tradeEfficientSpec)

/-- ITS FALSE NEIGHBOUR: 'it returns false'. Refute it at one input. -/
def tradeEfficientWrong : ChangeSpec := { name := "tradeEfficient", fn := fun _ => fun
  | [d1, d2, d3] => { results := [.lit (.bool false)], args := [d1, d2, d3] }
  | _ => none }
def TradeEfficientWrongFalsely : Prop := tradeEfficientRow.holds Try.pinned (OpenSpec.ofChange tradeEfficientWrong)

/-- 'cohousinglaw24.TradeHonest': WHATEVER THE INPUT: true; the input reads as it did. -/
def tradeHonestSpec : ChangeSpec := { name := "tradeHonest", fn := fun _ => fun
  | [d1, d2, d3, d4] => { results := [.lit (.bool true)], args := [d1, d2, d3, d4] }
  | _ => none }
def tradeHonestRow : OpenClaim := { program := "ytjgnkhfgmpaljaa", sum := "0fa2e584495b178f0b087a4d34913c6adddf1a8237bda756f54590381695f85e", func := "cohousing/cohousinglaw24.TradeHonest", spec := "tradeHonest", unfollowed := true, recurses := true, apart := false }
def TradeHonestSaid : Prop := tradeHonestRow.holds Try.pinned (OpenSpec.ofChange tradeHonestSpec)

/-- ITS FALSE NEIGHBOUR: 'it returns false'. Refute it at one input. -/
def tradeHonestWrong : ChangeSpec := { name := "tradeHonest", fn := fun _ => fun
  | [d1, d2, d3, d4] => { results := [.lit (.bool false)], args := [d1, d2, d3, d4] }
  | _ => none }
def TradeHonestWrongFalsely : Prop := tradeHonestRow.holds Try.pinned (OpenSpec.ofChange tradeHonestWrong)

/-- 'cohousinglaw24.TradeOthers': WHATEVER THE INPUT: true; the input reads as it did. -/
def tradeOthersSpec : ChangeSpec := { name := "tradeOthers", fn := fun _ => fun
  | [d1, d2, d3, d4] => { results := [.lit (.bool true)], args := [d1, d2, d3, d4] }
  | _ => none }
def tradeOthersRow : OpenClaim := { program := "ytjgnkhfgmpaljaa", sum := "0fa2e584495b178f0b087a4d34913c6adddf1a8237bda756f54590381695f85e", func := "cohousing/cohousinglaw24.TradeOthers", spec := "tradeOthers", unfollowed := true, recurses := true, apart := false }
def TradeOthersSaid : Prop := tradeOthersRow.holds Try.pinned (OpenSpec.ofChange tradeOthersSpec)

/-- ITS FALSE NEIGHBOUR: 'it returns false'. Refute it at one input. -/
def tradeOthersWrong : ChangeSpec := { name := "tradeOthers", fn := fun _ => fun
  | [d1, d2, d3, d4] => { results := [.lit (.bool false)], args := [d1, d2, d3, d4] }
  | _ => none }
def TradeOthersWrongFalsely : Prop := tradeOthersRow.holds Try.pinned (OpenSpec.ofChange tradeOthersWrong)

/-- 'cohousinglaw24.TradeFirst': WHATEVER THE INPUT: true; the input reads as it did. -/
def tradeFirstSpec : ChangeSpec := { name := "tradeFirst", fn := fun _ => fun
  | [d1, d2] => { results := [.lit (.bool true)], args := [d1, d2] }
  | _ => none }
def tradeFirstRow : OpenClaim := { program := "ytjgnkhfgmpaljaa", sum := "0fa2e584495b178f0b087a4d34913c6adddf1a8237bda756f54590381695f85e", func := "cohousing/cohousinglaw24.TradeFirst", spec := "tradeFirst", unfollowed := true, recurses := true, apart := false }
def TradeFirstSaid : Prop := tradeFirstRow.holds Try.pinned (OpenSpec.ofChange tradeFirstSpec)

/-- ITS FALSE NEIGHBOUR: 'it returns false'. Refute it at one input. -/
def tradeFirstWrong : ChangeSpec := { name := "tradeFirst", fn := fun _ => fun
  | [d1, d2] => { results := [.lit (.bool false)], args := [d1, d2] }
  | _ => none }
def TradeFirstWrongFalsely : Prop := tradeFirstRow.holds Try.pinned (OpenSpec.ofChange tradeFirstWrong)

/-- 'cohousinglaw24.TradePriority': WHATEVER THE INPUT: true; the input reads as it did. -/
def tradePrioritySpec : ChangeSpec := { name := "tradePriority", fn := fun _ => fun
  | [d1, d2, d3, d4] => { results := [.lit (.bool true)], args := [d1, d2, d3, d4] }
  | _ => none }
def tradePriorityRow : OpenClaim := { program := "ytjgnkhfgmpaljaa", sum := "0fa2e584495b178f0b087a4d34913c6adddf1a8237bda756f54590381695f85e", func := "cohousing/cohousinglaw24.TradePriority", spec := "tradePriority", unfollowed := true, recurses := true, apart := false }
def TradePrioritySaid : Prop := tradePriorityRow.holds Try.pinned (OpenSpec.ofChange tradePrioritySpec)

/-- ITS FALSE NEIGHBOUR: 'it returns false'. Refute it at one input. -/
def tradePriorityWrong : ChangeSpec := { name := "tradePriority", fn := fun _ => fun
  | [d1, d2, d3, d4] => { results := [.lit (.bool false)], args := [d1, d2, d3, d4] }
  | _ => none }
def TradePriorityWrongFalsely : Prop := tradePriorityRow.holds Try.pinned (OpenSpec.ofChange tradePriorityWrong)

/-- 'cohousinglaw25.FairSolved': WHATEVER THE INPUT: true; the input reads as it did. -/
def fairSolvedSpec : ChangeSpec := { name := "fairSolved", fn := fun _ => fun
  | [d1, d2] => { results := [.lit (.bool true)], args := [d1, d2] }
  | _ => none }
def fairSolvedRow : OpenClaim := { program := "ytjgnkhfgmpaljaa", sum := "0fa2e584495b178f0b087a4d34913c6adddf1a8237bda756f54590381695f85e", func := "cohousing/cohousinglaw25.FairSolved", spec := "fairSolved", unfollowed := true, recurses := true, apart := false }
def FairSolvedSaid : Prop := fairSolvedRow.holds Try.pinned (OpenSpec.ofChange fairSolvedSpec)

/-- ITS FALSE NEIGHBOUR: 'it returns false'. Refute it at one input. -/
def fairSolvedWrong : ChangeSpec := { name := "fairSolved", fn := fun _ => fun
  | [d1, d2] => { results := [.lit (.bool false)], args := [d1, d2] }
  | _ => none }
def FairSolvedWrongFalsely : Prop := fairSolvedRow.holds Try.pinned (OpenSpec.ofChange fairSolvedWrong)

/-- 'cohousinglaw25.FairBetter': WHATEVER THE INPUT: true; the input reads as it did. -/
def fairBetterSpec : ChangeSpec := { name := "fairBetter", fn := fun _ => fun
  | [d1, d2] => { results := [.lit (.bool true)], args := [d1, d2] }
  | _ => none }
def fairBetterRow : OpenClaim := { program := "ytjgnkhfgmpaljaa", sum := "0fa2e584495b178f0b087a4d34913c6adddf1a8237bda756f54590381695f85e", func := "cohousing/cohousinglaw25.FairBetter", spec := "fairBetter", unfollowed := true, recurses := true, apart := false }
def FairBetterSaid : Prop := fairBetterRow.holds Try.pinned (OpenSpec.ofChange fairBetterSpec)

/-- ITS FALSE NEIGHBOUR: 'it returns false'. Refute it at one input. -/
def fairBetterWrong : ChangeSpec := { name := "fairBetter", fn := fun _ => fun
  | [d1, d2] => { results := [.lit (.bool false)], args := [d1, d2] }
  | _ => none }
def FairBetterWrongFalsely : Prop := fairBetterRow.holds Try.pinned (OpenSpec.ofChange fairBetterWrong)

/-- 'cohousinglaw25.FairNothing': WHATEVER THE INPUT: true; the input reads as it did. -/
def fairNothingSpec : ChangeSpec := { name := "fairNothing", fn := fun _ => fun
  | [d1, d2, d3] => { results := [.lit (.bool true)], args := [d1, d2, d3] }
  | _ => none }
def fairNothingRow : OpenClaim := { program := "ytjgnkhfgmpaljaa", sum := "0fa2e584495b178f0b087a4d34913c6adddf1a8237bda756f54590381695f85e", func := "cohousing/cohousinglaw25.FairNothing", spec := "fairNothing", unfollowed := true, recurses := true, apart := false }
def FairNothingSaid : Prop := fairNothingRow.holds Try.pinned (OpenSpec.ofChange fairNothingSpec)

/-- ITS FALSE NEIGHBOUR: 'it returns false'. Refute it at one input. -/
def fairNothingWrong : ChangeSpec := { name := "fairNothing", fn := fun _ => fun
  | [d1, d2, d3] => { results := [.lit (.bool false)], args := [d1, d2, d3] }
  | _ => none }
def FairNothingWrongFalsely : Prop := fairNothingRow.holds Try.pinned (OpenSpec.ofChange fairNothingWrong)

/-- 'cohousinglaw25.FairBlocks': WHATEVER THE INPUT: true; the input reads as it did. -/
def fairBlocksSpec : ChangeSpec := { name := "fairBlocks", fn := fun _ => fun
  | [d1, d2, d3] => { results := [.lit (.bool true)], args := [d1, d2, d3] }
  | _ => none }
def fairBlocksRow : OpenClaim := { program := "ytjgnkhfgmpaljaa", sum := "0fa2e584495b178f0b087a4d34913c6adddf1a8237bda756f54590381695f85e", func := "cohousing/cohousinglaw25.FairBlocks", spec := "fairBlocks", unfollowed := true, recurses := true, apart := false }
def FairBlocksSaid : Prop := fairBlocksRow.holds Try.pinned (OpenSpec.ofChange fairBlocksSpec)

/-- ITS FALSE NEIGHBOUR: 'it returns false'. Refute it at one input. -/
def fairBlocksWrong : ChangeSpec := { name := "fairBlocks", fn := fun _ => fun
  | [d1, d2, d3] => { results := [.lit (.bool false)], args := [d1, d2, d3] }
  | _ => none }
def FairBlocksWrongFalsely : Prop := fairBlocksRow.holds Try.pinned (OpenSpec.ofChange fairBlocksWrong)

/-- 'cohousinglaw25.FairHonest': WHATEVER THE INPUT: true; the input reads as it did. -/
def fairHonestSpec : ChangeSpec := { name := "fairHonest", fn := fun _ => fun
  | [d1, d2, d3, d4] => { results := [.lit (.bool true)], args := [d1, d2, d3, d4] }
  | _ => none }
def fairHonestRow : OpenClaim := { program := "ytjgnkhfgmpaljaa", sum := "0fa2e584495b178f0b087a4d34913c6adddf1a8237bda756f54590381695f85e", func := "cohousing/cohousinglaw25.FairHonest", spec := "fairHonest", unfollowed := true, recurses := true, apart := false }
def FairHonestSaid : Prop := fairHonestRow.holds Try.pinned (OpenSpec.ofChange fairHonestSpec)

/-- ITS FALSE NEIGHBOUR: 'it returns false'. Refute it at one input. -/
def fairHonestWrong : ChangeSpec := { name := "fairHonest", fn := fun _ => fun
  | [d1, d2, d3, d4] => { results := [.lit (.bool false)], args := [d1, d2, d3, d4] }
  | _ => none }
def FairHonestWrongFalsely : Prop := fairHonestRow.holds Try.pinned (OpenSpec.ofChange fairHonestWrong)

/- THE SECOND FORM. 'bulk': how many values and letters a reading holds, each counted each time it is reached (what is shared counts as often as it is met; a slice's spare places count too). A statement '..UptoSaid' is the law's where the arguments, and the package variables that the reading takes, are together of bulk at most 1048576: NARROWER than '..Said'. Prove '..Said' where nothing that the law and all that it calls make is longer than what came in: it says more and counts as full. Else prove '..UptoSaid'. A law counts once. -/
mutual
def uptoBulk {H : Type} : DataW H → Nat
  | .lit (.string bytes) => bytes.length + 1
  | .lit _ => 1
  | .nil => 1
  | .ptr d => uptoBulk d + 1
  | .slice elems spare => uptoBulkAll elems + uptoBulkAll spare + 1
  | .agg parts => uptoBulkAll parts + 1
  | .iface _ d => uptoBulk d + 1
  | .map entries => uptoBulkEntries entries + 1
  | .held _ => 1
def uptoBulkAll {H : Type} : List (DataW H) → Nat
  | [] => 0
  | d :: r => uptoBulk d + uptoBulkAll r
def uptoBulkEntries {H : Type} : List (Lit × DataW H) → Nat
  | [] => 0
  | x :: r => uptoBulkEntry x + uptoBulkEntries r
def uptoBulkEntry {H : Type} : Lit × DataW H → Nat
  | (.string bytes, d) => bytes.length + uptoBulk d + 1
  | (_, d) => uptoBulk d + 1
 end
def uptoSmall : (H : Type) → List (DataW H) → Bool := fun _ ds => decide (uptoBulkAll ds ≤ 1048576)
def OpenSpec.upto (s : _root_.Go.ChangeSpec) : _root_.Go.OpenSpec := { _root_.Go.OpenSpec.ofChange s with cond := some uptoSmall }

/-- 'cohousinglaw24.TradeMatchesReference', WHERE WHAT IT READS IS OF BULK AT MOST 1048576: true; the input reads as it did. -/
def tradeMatchesReferenceUptoRow : OpenClaim := { program := "ytjgnkhfgmpaljaa", sum := "0fa2e584495b178f0b087a4d34913c6adddf1a8237bda756f54590381695f85e", func := "cohousing/cohousinglaw24.TradeMatchesReference", spec := "tradeMatchesReference", unfollowed := true, recurses := true, apart := false, narrowed := true }
def TradeMatchesReferenceUptoSaid : Prop := tradeMatchesReferenceUptoRow.holds Try.pinned (OpenSpec.upto tradeMatchesReferenceSpec)

/-- 'cohousinglaw24.TradeAllocates', WHERE WHAT IT READS IS OF BULK AT MOST 1048576: true; the input reads as it did. -/
def tradeAllocatesUptoRow : OpenClaim := { program := "ytjgnkhfgmpaljaa", sum := "0fa2e584495b178f0b087a4d34913c6adddf1a8237bda756f54590381695f85e", func := "cohousing/cohousinglaw24.TradeAllocates", spec := "tradeAllocates", unfollowed := true, recurses := true, apart := false, narrowed := true }
def TradeAllocatesUptoSaid : Prop := tradeAllocatesUptoRow.holds Try.pinned (OpenSpec.upto tradeAllocatesSpec)

/-- 'cohousinglaw24.TradeRings', WHERE WHAT IT READS IS OF BULK AT MOST 1048576: true; the input reads as it did. -/
def tradeRingsUptoRow : OpenClaim := { program := "ytjgnkhfgmpaljaa", sum := "0fa2e584495b178f0b087a4d34913c6adddf1a8237bda756f54590381695f85e", func := "cohousing/cohousinglaw24.TradeRings", spec := "tradeRings", unfollowed := true, recurses := true, apart := false, narrowed := true }
def TradeRingsUptoSaid : Prop := tradeRingsUptoRow.holds Try.pinned (OpenSpec.upto tradeRingsSpec)

/-- 'cohousinglaw24.TradeEfficient', WHERE WHAT IT READS IS OF BULK AT MOST 1048576: true; the input reads as it did. -/
def tradeEfficientUptoRow : OpenClaim := { program := "ytjgnkhfgmpaljaa", sum := "0fa2e584495b178f0b087a4d34913c6adddf1a8237bda756f54590381695f85e", func := "cohousing/cohousinglaw24.TradeEfficient", spec := "tradeEfficient", unfollowed := true, recurses := true, apart := false, narrowed := true }
def TradeEfficientUptoSaid : Prop := tradeEfficientUptoRow.holds Try.pinned (OpenSpec.upto tradeEfficientSpec)

/-- 'cohousinglaw24.TradeHonest', WHERE WHAT IT READS IS OF BULK AT MOST 1048576: true; the input reads as it did. -/
def tradeHonestUptoRow : OpenClaim := { program := "ytjgnkhfgmpaljaa", sum := "0fa2e584495b178f0b087a4d34913c6adddf1a8237bda756f54590381695f85e", func := "cohousing/cohousinglaw24.TradeHonest", spec := "tradeHonest", unfollowed := true, recurses := true, apart := false, narrowed := true }
def TradeHonestUptoSaid : Prop := tradeHonestUptoRow.holds Try.pinned (OpenSpec.upto tradeHonestSpec)

/-- 'cohousinglaw24.TradeOthers', WHERE WHAT IT READS IS OF BULK AT MOST 1048576: true; the input reads as it did. -/
def tradeOthersUptoRow : OpenClaim := { program := "ytjgnkhfgmpaljaa", sum := "0fa2e584495b178f0b087a4d34913c6adddf1a8237bda756f54590381695f85e", func := "cohousing/cohousinglaw24.TradeOthers", spec := "tradeOthers", unfollowed := true, recurses := true, apart := false, narrowed := true }
def TradeOthersUptoSaid : Prop := tradeOthersUptoRow.holds Try.pinned (OpenSpec.upto tradeOthersSpec)

/-- 'cohousinglaw24.TradeFirst', WHERE WHAT IT READS IS OF BULK AT MOST 1048576: true; the input reads as it did. -/
def tradeFirstUptoRow : OpenClaim := { program := "ytjgnkhfgmpaljaa", sum := "0fa2e584495b178f0b087a4d34913c6adddf1a8237bda756f54590381695f85e", func := "cohousing/cohousinglaw24.TradeFirst", spec := "tradeFirst", unfollowed := true, recurses := true, apart := false, narrowed := true }
def TradeFirstUptoSaid : Prop := tradeFirstUptoRow.holds Try.pinned (OpenSpec.upto tradeFirstSpec)

/-- 'cohousinglaw24.TradePriority', WHERE WHAT IT READS IS OF BULK AT MOST 1048576: true; the input reads as it did. -/
def tradePriorityUptoRow : OpenClaim := { program := "ytjgnkhfgmpaljaa", sum := "0fa2e584495b178f0b087a4d34913c6adddf1a8237bda756f54590381695f85e", func := "cohousing/cohousinglaw24.TradePriority", spec := "tradePriority", unfollowed := true, recurses := true, apart := false, narrowed := true }
def TradePriorityUptoSaid : Prop := tradePriorityUptoRow.holds Try.pinned (OpenSpec.upto tradePrioritySpec)

/-- 'cohousinglaw25.FairSolved', WHERE WHAT IT READS IS OF BULK AT MOST 1048576: true; the input reads as it did. -/
def fairSolvedUptoRow : OpenClaim := { program := "ytjgnkhfgmpaljaa", sum := "0fa2e584495b178f0b087a4d34913c6adddf1a8237bda756f54590381695f85e", func := "cohousing/cohousinglaw25.FairSolved", spec := "fairSolved", unfollowed := true, recurses := true, apart := false, narrowed := true }
def FairSolvedUptoSaid : Prop := fairSolvedUptoRow.holds Try.pinned (OpenSpec.upto fairSolvedSpec)

/-- 'cohousinglaw25.FairBetter', WHERE WHAT IT READS IS OF BULK AT MOST 1048576: true; the input reads as it did. -/
def fairBetterUptoRow : OpenClaim := { program := "ytjgnkhfgmpaljaa", sum := "0fa2e584495b178f0b087a4d34913c6adddf1a8237bda756f54590381695f85e", func := "cohousing/cohousinglaw25.FairBetter", spec := "fairBetter", unfollowed := true, recurses := true, apart := false, narrowed := true }
def FairBetterUptoSaid : Prop := fairBetterUptoRow.holds Try.pinned (OpenSpec.upto fairBetterSpec)

/-- 'cohousinglaw25.FairNothing', WHERE WHAT IT READS IS OF BULK AT MOST 1048576: true; the input reads as it did. -/
def fairNothingUptoRow : OpenClaim := { program := "ytjgnkhfgmpaljaa", sum := "0fa2e584495b178f0b087a4d34913c6adddf1a8237bda756f54590381695f85e", func := "cohousing/cohousinglaw25.FairNothing", spec := "fairNothing", unfollowed := true, recurses := true, apart := false, narrowed := true }
def FairNothingUptoSaid : Prop := fairNothingUptoRow.holds Try.pinned (OpenSpec.upto fairNothingSpec)

/-- 'cohousinglaw25.FairBlocks', WHERE WHAT IT READS IS OF BULK AT MOST 1048576: true; the input reads as it did. -/
def fairBlocksUptoRow : OpenClaim := { program := "ytjgnkhfgmpaljaa", sum := "0fa2e584495b178f0b087a4d34913c6adddf1a8237bda756f54590381695f85e", func := "cohousing/cohousinglaw25.FairBlocks", spec := "fairBlocks", unfollowed := true, recurses := true, apart := false, narrowed := true }
def FairBlocksUptoSaid : Prop := fairBlocksUptoRow.holds Try.pinned (OpenSpec.upto fairBlocksSpec)

/-- 'cohousinglaw25.FairHonest', WHERE WHAT IT READS IS OF BULK AT MOST 1048576: true; the input reads as it did. -/
def fairHonestUptoRow : OpenClaim := { program := "ytjgnkhfgmpaljaa", sum := "0fa2e584495b178f0b087a4d34913c6adddf1a8237bda756f54590381695f85e", func := "cohousing/cohousinglaw25.FairHonest", spec := "fairHonest", unfollowed := true, recurses := true, apart := false, narrowed := true }
def FairHonestUptoSaid : Prop := fairHonestUptoRow.holds Try.pinned (OpenSpec.upto fairHonestSpec)

end Rows
end Go.Proofs.Ytjgnkhfgmpaljaa
