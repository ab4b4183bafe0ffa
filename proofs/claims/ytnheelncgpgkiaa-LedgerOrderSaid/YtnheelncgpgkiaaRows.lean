/-
  No cell of these rows narrows 'for every input' (looked for: loops, veiled, ifaces, maps, wideKeys, modest, calm, conditions, laid).
  DERIVED. THE GIVEN ROWS OF THIS SEAT. 8 by the template 'for every input the law returns true; each argument reads behind the call as it read before'; 0 by the template 'total and deterministic' (their statements: YtnheelncgpgkiaaTotals.lean).
  GIVEN WITH THE SEED: the statements are not yours to turn. If you find one false, say at which input.
  Laid BY PROGRAM, IN A SANDBOX (cutbox-rows.mjs): the forced cells as the released guide's own fill.sh prints them over the translation 2781aee9fb7a2b4a… (all of the seat's roots in one cut). By AI agents, Wed Nov 11 2026. No macro, syntax, notation, axiom, sorry.
-/
import Derived.Test.YtnheelncgpgkiaaChecked
import GoSem.Claim
import GoSem.ClaimJoined
import GoSem.ClaimMapViews
import Derived.JoinedTies
import Derived.KernelRfl
namespace Go.Proofs.Ytnheelncgpgkiaa
/- THE CELL 'sum', in the pinned program and in every row, IS THE sha256 OF THE DUMP (.gsa) THAT YtnheelncgpgkiaaProg.lean LOADS. Nothing in Lean hashes anything: it is a label: what it is worth is what the hold of that sum in a sandbox is worth. -/
noncomputable def Try.pinned : Pinned := { name := "ytnheelncgpgkiaa", sum := "2781aee9fb7a2b4a7f094d372a56c6085874843bae09d27ff43e8e6a55d9f9b6", checked := Try.checked }
namespace Rows
def none {H : Type} : Left H := { results := [], args := [] }

/-- 'cohousinglaw33.LedgerMatchesReference': WHATEVER THE INPUT: true; the input reads as it did. -/
def ledgerMatchesReferenceSpec : ChangeSpec := { name := "ledgerMatchesReference", fn := fun _ => fun
  | [d1, d2, d3, d4, d5, d6, d7] => { results := [.lit (.bool true)], args := [d1, d2, d3, d4, d5, d6, d7] }
  | _ => none }
def ledgerMatchesReferenceRow : OpenClaim := { program := "ytnheelncgpgkiaa", sum := "2781aee9fb7a2b4a7f094d372a56c6085874843bae09d27ff43e8e6a55d9f9b6", func := "cohousing/cohousinglaw33.LedgerMatchesReference", spec := "ledgerMatchesReference", unfollowed := true, recurses := true, apart := false }
def LedgerMatchesReferenceSaid : Prop := ledgerMatchesReferenceRow.holds Try.pinned (OpenSpec.ofChange ledgerMatchesReferenceSpec)

/-- ITS FALSE NEIGHBOUR: 'it returns false'. Refute it at one input. -/
def ledgerMatchesReferenceWrong : ChangeSpec := { name := "ledgerMatchesReference", fn := fun _ => fun
  | [d1, d2, d3, d4, d5, d6, d7] => { results := [.lit (.bool false)], args := [d1, d2, d3, d4, d5, d6, d7] }
  | _ => none }
def LedgerMatchesReferenceWrongFalsely : Prop := ledgerMatchesReferenceRow.holds Try.pinned (OpenSpec.ofChange ledgerMatchesReferenceWrong)

/-- 'cohousinglaw33.LedgerBalances': WHATEVER THE INPUT: true; the input reads as it did. -/
def ledgerBalancesSpec : ChangeSpec := { name := "ledgerBalances", fn := fun _ => fun
  | [d1, d2, d3] => { results := [.lit (.bool true)], args := [d1, d2, d3] }
  | _ => none }
def ledgerBalancesRow : OpenClaim := { program := "ytnheelncgpgkiaa", sum := "2781aee9fb7a2b4a7f094d372a56c6085874843bae09d27ff43e8e6a55d9f9b6", func := "cohousing/cohousinglaw33.LedgerBalances", spec := "ledgerBalances", unfollowed := true, recurses := true, apart := false }
def LedgerBalancesSaid : Prop := ledgerBalancesRow.holds Try.pinned (OpenSpec.ofChange ledgerBalancesSpec)

/-- ITS FALSE NEIGHBOUR: 'it returns false'. Refute it at one input. -/
def ledgerBalancesWrong : ChangeSpec := { name := "ledgerBalances", fn := fun _ => fun
  | [d1, d2, d3] => { results := [.lit (.bool false)], args := [d1, d2, d3] }
  | _ => none }
def LedgerBalancesWrongFalsely : Prop := ledgerBalancesRow.holds Try.pinned (OpenSpec.ofChange ledgerBalancesWrong)

/-- 'cohousinglaw33.LedgerPosts': WHATEVER THE INPUT: true; the input reads as it did. -/
def ledgerPostsSpec : ChangeSpec := { name := "ledgerPosts", fn := fun _ => fun
  | [d1, d2, d3, d4, d5] => { results := [.lit (.bool true)], args := [d1, d2, d3, d4, d5] }
  | _ => none }
def ledgerPostsRow : OpenClaim := { program := "ytnheelncgpgkiaa", sum := "2781aee9fb7a2b4a7f094d372a56c6085874843bae09d27ff43e8e6a55d9f9b6", func := "cohousing/cohousinglaw33.LedgerPosts", spec := "ledgerPosts", unfollowed := true, recurses := true, apart := false }
def LedgerPostsSaid : Prop := ledgerPostsRow.holds Try.pinned (OpenSpec.ofChange ledgerPostsSpec)

/-- ITS FALSE NEIGHBOUR: 'it returns false'. Refute it at one input. -/
def ledgerPostsWrong : ChangeSpec := { name := "ledgerPosts", fn := fun _ => fun
  | [d1, d2, d3, d4, d5] => { results := [.lit (.bool false)], args := [d1, d2, d3, d4, d5] }
  | _ => none }
def LedgerPostsWrongFalsely : Prop := ledgerPostsRow.holds Try.pinned (OpenSpec.ofChange ledgerPostsWrong)

/-- 'cohousinglaw33.LedgerReverses': WHATEVER THE INPUT: true; the input reads as it did. -/
def ledgerReversesSpec : ChangeSpec := { name := "ledgerReverses", fn := fun _ => fun
  | [d1, d2, d3, d4, d5, d6, d7] => { results := [.lit (.bool true)], args := [d1, d2, d3, d4, d5, d6, d7] }
  | _ => none }
def ledgerReversesRow : OpenClaim := { program := "ytnheelncgpgkiaa", sum := "2781aee9fb7a2b4a7f094d372a56c6085874843bae09d27ff43e8e6a55d9f9b6", func := "cohousing/cohousinglaw33.LedgerReverses", spec := "ledgerReverses", unfollowed := true, recurses := true, apart := false }
def LedgerReversesSaid : Prop := ledgerReversesRow.holds Try.pinned (OpenSpec.ofChange ledgerReversesSpec)

/-- ITS FALSE NEIGHBOUR: 'it returns false'. Refute it at one input. -/
def ledgerReversesWrong : ChangeSpec := { name := "ledgerReverses", fn := fun _ => fun
  | [d1, d2, d3, d4, d5, d6, d7] => { results := [.lit (.bool false)], args := [d1, d2, d3, d4, d5, d6, d7] }
  | _ => none }
def LedgerReversesWrongFalsely : Prop := ledgerReversesRow.holds Try.pinned (OpenSpec.ofChange ledgerReversesWrong)

/-- 'cohousinglaw33.LedgerKnowledge': WHATEVER THE INPUT: true; the input reads as it did. -/
def ledgerKnowledgeSpec : ChangeSpec := { name := "ledgerKnowledge", fn := fun _ => fun
  | [d1, d2, d3, d4] => { results := [.lit (.bool true)], args := [d1, d2, d3, d4] }
  | _ => none }
def ledgerKnowledgeRow : OpenClaim := { program := "ytnheelncgpgkiaa", sum := "2781aee9fb7a2b4a7f094d372a56c6085874843bae09d27ff43e8e6a55d9f9b6", func := "cohousing/cohousinglaw33.LedgerKnowledge", spec := "ledgerKnowledge", unfollowed := true, recurses := true, apart := false }
def LedgerKnowledgeSaid : Prop := ledgerKnowledgeRow.holds Try.pinned (OpenSpec.ofChange ledgerKnowledgeSpec)

/-- ITS FALSE NEIGHBOUR: 'it returns false'. Refute it at one input. -/
def ledgerKnowledgeWrong : ChangeSpec := { name := "ledgerKnowledge", fn := fun _ => fun
  | [d1, d2, d3, d4] => { results := [.lit (.bool false)], args := [d1, d2, d3, d4] }
  | _ => none }
def LedgerKnowledgeWrongFalsely : Prop := ledgerKnowledgeRow.holds Try.pinned (OpenSpec.ofChange ledgerKnowledgeWrong)

/-- 'cohousinglaw33.LedgerOrder': WHATEVER THE INPUT: true; the input reads as it did. -/
def ledgerOrderSpec : ChangeSpec := { name := "ledgerOrder", fn := fun _ => fun
  | [d1, d2, d3, d4, d5] => { results := [.lit (.bool true)], args := [d1, d2, d3, d4, d5] }
  | _ => none }
def ledgerOrderRow : OpenClaim := { program := "ytnheelncgpgkiaa", sum := "2781aee9fb7a2b4a7f094d372a56c6085874843bae09d27ff43e8e6a55d9f9b6", func := "cohousing/cohousinglaw33.LedgerOrder", spec := "ledgerOrder", unfollowed := true, recurses := true, apart := false }
def LedgerOrderSaid : Prop := ledgerOrderRow.holds Try.pinned (OpenSpec.ofChange ledgerOrderSpec)

/-- ITS FALSE NEIGHBOUR: 'it returns false'. Refute it at one input. -/
def ledgerOrderWrong : ChangeSpec := { name := "ledgerOrder", fn := fun _ => fun
  | [d1, d2, d3, d4, d5] => { results := [.lit (.bool false)], args := [d1, d2, d3, d4, d5] }
  | _ => none }
def LedgerOrderWrongFalsely : Prop := ledgerOrderRow.holds Try.pinned (OpenSpec.ofChange ledgerOrderWrong)

/-- 'cohousinglaw33.LedgerParts': WHATEVER THE INPUT: true; the input reads as it did. -/
def ledgerPartsSpec : ChangeSpec := { name := "ledgerParts", fn := fun _ => fun
  | [d1, d2, d3, d4, d5] => { results := [.lit (.bool true)], args := [d1, d2, d3, d4, d5] }
  | _ => none }
def ledgerPartsRow : OpenClaim := { program := "ytnheelncgpgkiaa", sum := "2781aee9fb7a2b4a7f094d372a56c6085874843bae09d27ff43e8e6a55d9f9b6", func := "cohousing/cohousinglaw33.LedgerParts", spec := "ledgerParts", unfollowed := true, recurses := true, apart := false }
def LedgerPartsSaid : Prop := ledgerPartsRow.holds Try.pinned (OpenSpec.ofChange ledgerPartsSpec)

/-- ITS FALSE NEIGHBOUR: 'it returns false'. Refute it at one input. -/
def ledgerPartsWrong : ChangeSpec := { name := "ledgerParts", fn := fun _ => fun
  | [d1, d2, d3, d4, d5] => { results := [.lit (.bool false)], args := [d1, d2, d3, d4, d5] }
  | _ => none }
def LedgerPartsWrongFalsely : Prop := ledgerPartsRow.holds Try.pinned (OpenSpec.ofChange ledgerPartsWrong)

/-- 'cohousinglaw33.LedgerAccounts': WHATEVER THE INPUT: true; the input reads as it did. -/
def ledgerAccountsSpec : ChangeSpec := { name := "ledgerAccounts", fn := fun _ => fun
  | [d1, d2, d3, d4] => { results := [.lit (.bool true)], args := [d1, d2, d3, d4] }
  | _ => none }
def ledgerAccountsRow : OpenClaim := { program := "ytnheelncgpgkiaa", sum := "2781aee9fb7a2b4a7f094d372a56c6085874843bae09d27ff43e8e6a55d9f9b6", func := "cohousing/cohousinglaw33.LedgerAccounts", spec := "ledgerAccounts", unfollowed := true, recurses := true, apart := false }
def LedgerAccountsSaid : Prop := ledgerAccountsRow.holds Try.pinned (OpenSpec.ofChange ledgerAccountsSpec)

/-- ITS FALSE NEIGHBOUR: 'it returns false'. Refute it at one input. -/
def ledgerAccountsWrong : ChangeSpec := { name := "ledgerAccounts", fn := fun _ => fun
  | [d1, d2, d3, d4] => { results := [.lit (.bool false)], args := [d1, d2, d3, d4] }
  | _ => none }
def LedgerAccountsWrongFalsely : Prop := ledgerAccountsRow.holds Try.pinned (OpenSpec.ofChange ledgerAccountsWrong)

/- THE SECOND FORM. 'bulk': how many values and letters a reading holds, each counted each time it is reached (what is shared counts as often as it is met; a slice's spare places count too). A statement '..UptoSaid' is the law's where the arguments, and the package variables that the reading takes, are together of bulk at most 1048576: NARROWER than '..Said'. Prove '..Said' where nothing that the law and all that it calls make is longer than what came in: it says more and counts as full. Else prove '..UptoSaid'. A law counts once. -/
mutual
def uptoBulk {H : Type} : DataW H → Nat
  | .lit (.string bytes) => bytes.length + 1
  | .lit _ => 1
  | .nil => 1
  | .ptr d => uptoBulk d + 1
  | .slice elems spare => uptoBulkAll elems + uptoBulkAll spare + 1
  | .agg parts => uptoBulkAll parts + 1
  | .iface _ d => uptoBulk d + 1
  | .map entries => uptoBulkEntries entries + 1
  | .held _ => 1
def uptoBulkAll {H : Type} : List (DataW H) → Nat
  | [] => 0
  | d :: r => uptoBulk d + uptoBulkAll r
def uptoBulkEntries {H : Type} : List (Lit × DataW H) → Nat
  | [] => 0
  | x :: r => uptoBulkEntry x + uptoBulkEntries r
def uptoBulkEntry {H : Type} : Lit × DataW H → Nat
  | (.string bytes, d) => bytes.length + uptoBulk d + 1
  | (_, d) => uptoBulk d + 1
 end
def uptoSmall : (H : Type) → List (DataW H) → Bool := fun _ ds => decide (uptoBulkAll ds ≤ 1048576)
def OpenSpec.upto (s : _root_.Go.ChangeSpec) : _root_.Go.OpenSpec := { _root_.Go.OpenSpec.ofChange s with cond := some uptoSmall }

/-- 'cohousinglaw33.LedgerMatchesReference', WHERE WHAT IT READS IS OF BULK AT MOST 1048576: true; the input reads as it did. -/
def ledgerMatchesReferenceUptoRow : OpenClaim := { program := "ytnheelncgpgkiaa", sum := "2781aee9fb7a2b4a7f094d372a56c6085874843bae09d27ff43e8e6a55d9f9b6", func := "cohousing/cohousinglaw33.LedgerMatchesReference", spec := "ledgerMatchesReference", unfollowed := true, recurses := true, apart := false, narrowed := true }
def LedgerMatchesReferenceUptoSaid : Prop := ledgerMatchesReferenceUptoRow.holds Try.pinned (OpenSpec.upto ledgerMatchesReferenceSpec)

/-- 'cohousinglaw33.LedgerBalances', WHERE WHAT IT READS IS OF BULK AT MOST 1048576: true; the input reads as it did. -/
def ledgerBalancesUptoRow : OpenClaim := { program := "ytnheelncgpgkiaa", sum := "2781aee9fb7a2b4a7f094d372a56c6085874843bae09d27ff43e8e6a55d9f9b6", func := "cohousing/cohousinglaw33.LedgerBalances", spec := "ledgerBalances", unfollowed := true, recurses := true, apart := false, narrowed := true }
def LedgerBalancesUptoSaid : Prop := ledgerBalancesUptoRow.holds Try.pinned (OpenSpec.upto ledgerBalancesSpec)

/-- 'cohousinglaw33.LedgerPosts', WHERE WHAT IT READS IS OF BULK AT MOST 1048576: true; the input reads as it did. -/
def ledgerPostsUptoRow : OpenClaim := { program := "ytnheelncgpgkiaa", sum := "2781aee9fb7a2b4a7f094d372a56c6085874843bae09d27ff43e8e6a55d9f9b6", func := "cohousing/cohousinglaw33.LedgerPosts", spec := "ledgerPosts", unfollowed := true, recurses := true, apart := false, narrowed := true }
def LedgerPostsUptoSaid : Prop := ledgerPostsUptoRow.holds Try.pinned (OpenSpec.upto ledgerPostsSpec)

/-- 'cohousinglaw33.LedgerReverses', WHERE WHAT IT READS IS OF BULK AT MOST 1048576: true; the input reads as it did. -/
def ledgerReversesUptoRow : OpenClaim := { program := "ytnheelncgpgkiaa", sum := "2781aee9fb7a2b4a7f094d372a56c6085874843bae09d27ff43e8e6a55d9f9b6", func := "cohousing/cohousinglaw33.LedgerReverses", spec := "ledgerReverses", unfollowed := true, recurses := true, apart := false, narrowed := true }
def LedgerReversesUptoSaid : Prop := ledgerReversesUptoRow.holds Try.pinned (OpenSpec.upto ledgerReversesSpec)

/-- 'cohousinglaw33.LedgerKnowledge', WHERE WHAT IT READS IS OF BULK AT MOST 1048576: true; the input reads as it did. -/
def ledgerKnowledgeUptoRow : OpenClaim := { program := "ytnheelncgpgkiaa", sum := "2781aee9fb7a2b4a7f094d372a56c6085874843bae09d27ff43e8e6a55d9f9b6", func := "cohousing/cohousinglaw33.LedgerKnowledge", spec := "ledgerKnowledge", unfollowed := true, recurses := true, apart := false, narrowed := true }
def LedgerKnowledgeUptoSaid : Prop := ledgerKnowledgeUptoRow.holds Try.pinned (OpenSpec.upto ledgerKnowledgeSpec)

/-- 'cohousinglaw33.LedgerOrder', WHERE WHAT IT READS IS OF BULK AT MOST 1048576: true; the input reads as it did. -/
def ledgerOrderUptoRow : OpenClaim := { program := "ytnheelncgpgkiaa", sum := "2781aee9fb7a2b4a7f094d372a56c6085874843bae09d27ff43e8e6a55d9f9b6", func := "cohousing/cohousinglaw33.LedgerOrder", spec := "ledgerOrder", unfollowed := true, recurses := true, apart := false, narrowed := true }
def LedgerOrderUptoSaid : Prop := ledgerOrderUptoRow.holds Try.pinned (OpenSpec.upto ledgerOrderSpec)

/-- 'cohousinglaw33.LedgerParts', WHERE WHAT IT READS IS OF BULK AT MOST 1048576: true; the input reads as it did. -/
def ledgerPartsUptoRow : OpenClaim := { program := "ytnheelncgpgkiaa", sum := "2781aee9fb7a2b4a7f094d372a56c6085874843bae09d27ff43e8e6a55d9f9b6", func := "cohousing/cohousinglaw33.LedgerParts", spec := "ledgerParts", unfollowed := true, recurses := true, apart := false, narrowed := true }
def LedgerPartsUptoSaid : Prop := ledgerPartsUptoRow.holds Try.pinned (OpenSpec.upto ledgerPartsSpec)

/-- 'cohousinglaw33.LedgerAccounts', WHERE WHAT IT READS IS OF BULK AT MOST 1048576: true; the input reads as it did. -/
def ledgerAccountsUptoRow : OpenClaim := { program := "ytnheelncgpgkiaa", sum := "2781aee9fb7a2b4a7f094d372a56c6085874843bae09d27ff43e8e6a55d9f9b6", func := "cohousing/cohousinglaw33.LedgerAccounts", spec := "ledgerAccounts", unfollowed := true, recurses := true, apart := false, narrowed := true }
def LedgerAccountsUptoSaid : Prop := ledgerAccountsUptoRow.holds Try.pinned (OpenSpec.upto ledgerAccountsSpec)

end Rows
end Go.Proofs.Ytnheelncgpgkiaa
